/- The law DiskApart. -/
import Derived.Test.YtnijmegalgoipaaDoorApartPlain
namespace Go.Proofs.YtnijmegalgoipaaDoor
open Go.RowKit
theorem does_anyE (g : Nat) (D : DiskD) (S : Nat → Prop) (o : OpM) (n : Nat) {cs : Array Value} (hcs : o.cells.toArray = cs) (w : World) (hd : DiskAt w g D S) (hg : Good n D) (hn : n ≤ 900000) (ho : o.ok w) (hf : fewO o = true) (hPS : 0 < o.picks.length → ∀ k, o.vp.ownBlock = some k → ¬ S k) (hSw : ∀ k, S k → k < w.heap.size) :
    Calls Tryd.prog 37 #[.pointer (some ⟨g, 0, none⟩), .agg cs] w fun e w' => e = .returned (.tuple #[str (doesM D o).1.1, .int .i64 (doesM D o).1.2.1, .int .i64 (doesM D o).1.2.2]) ∧ DiskAt w' g (doesM D o).2 (Ext S w w') ∧ Chg S w w' := hcs ▸ does_any g D S o n w hd hg hn ho hf hPS hSw
theorem made_ints (n : Nat) : (madeCells (Value.int IntKind.i64 0).cells (n * 1)).toList = (List.replicate n (0 : Int)).map fun k => .int .i64 k := by
  rw [Nat.mul_one]
  apply List.ext_getElem
  · simp [madeCells]
  · intro i h1 h2
    have e : (Value.int IntKind.i64 0).cells = #[.int .i64 0] := rfl
    simp [madeCells, e, Nat.mod_one]
set_option maxRecDepth 10000 in
theorem DiskApart_walk (w : World) (x y : List UInt8) (pick : Int) (_hpk : -9223372036854775808 ≤ pick ∧ pick ≤ 9223372036854775807) (v : Value) (l : List OpM) (h : OpsAt w v l) :
    Calls Tryd.prog 7 #[.agg #[str x, str y, .int .i64 pick], v] w fun e w' => e = .returned (.bool true) ∧ Below w.heap.size w w' := by
  obtain ⟨a, cp, rfl, hc1, hc2⟩ := h.1.shape
  have hnn := h.1.nle
  have u0 : Good 0 (newM 1048576) := Good.new (by omega)
  refine W_enter (args := [.agg #[str x, str y, .int .i64 pick], .slice a l.length cp]) 181 Tryd.func7 rfl rfl rfl ?_
  refine W_sub [(0, .agg #[str x, str y, .int .i64 pick]), (1, .slice a l.length cp)] ?_ ⟨rfl, rfl, trivial⟩
  have hbw := Below.refl w.heap.size w
  refine W_rs ?_
  refine sboxA rfl rfl (fun g2 w1 hB2 hg2 hb hl2 => ?_)
  replace hbw := bthen hbw hb
  have hz_w1 := hb.size
  clear hb
  refine sa rfl rfl ?_
  refine Wn ?_
  refine tN ?_
  refine W_rs ?_
  refine sc _ Tryd.func23 rfl (by kernel_rfl) rfl rfl ((New_ok 1048576 _ (by omega)).mono ?_)
  rintro e_ w2 ⟨ga, S0, rfl, h0, hS0, hb⟩
  refine cR ?_
  replace hbw := bthen hbw hb
  replace hB2 := hB2.bel hb
  have hz_w2 := hb.size
  clear hb
  have hd : Own w1.heap.size w2 ga (newM 1048576) S0 := ⟨h0, fun k hk => by have := hS0 k hk; omega⟩
  have hlo := hd.lo
  clear h0 hS0
  refine sm rfl rfl ?_
  refine st (X.ext rfl rfl) rfl ?_
  refine st (X.ext rfl rfl) rfl ?_
  refine sa rfl rfl ?_
  refine sa rfl rfl ?_
  refine Wn ?_
  refine tN ?_
  refine W_rs ?_
  refine sc _ Tryd.func23 rfl (by kernel_rfl) rfl rfl ((New_ok 1048576 _ (by omega)).mono ?_)
  rintro e_ w3 ⟨gb, T0, rfl, h0, hT0, hb⟩
  refine cR ?_
  replace hbw := bthen hbw hb
  replace hB2 := hB2.bel hb
  replace hd := hd.bel hb
  have hz_w3 := hb.size
  clear hb
  have hc : Own w1.heap.size w3 gb (newM 1048576) T0 := ⟨h0, fun k hk => by have := hT0 k hk; omega⟩
  have hdc : ∀ k, S0 k → ¬ T0 k := fun k h1 h2 => by have := hlo k h1; have := hT0 k h2; omega
  clear h0 hT0 hlo
  refine sm rfl rfl ?_
  refine st (X.ext rfl rfl) rfl ?_
  refine st (X.ext rfl rfl) rfl ?_
  refine sa rfl rfl ?_
  refine sa rfl rfl ?_
  refine Wn ?_
  refine tN ?_
  refine W_seq ?_
  refine W_rs ?_
  refine sm rfl rfl ?_
  refine st (X.neq rfl rfl) rfl ?_
  refine sbN rfl (rfl) rfl ?_
  refine gY (g := 29) rfl rfl rfl ?_
  refine sm rfl rfl ?_
  refine gY (g := 29) rfl rfl rfl ?_
  refine st (X.neq rfl rfl) rfl ?_
  refine st (X.pickF rfl rfl) rfl ?_
  refine sbN rfl (rfl) rfl ?_
  refine gY (g := 33) rfl rfl rfl ?_
  refine sm rfl rfl ?_
  refine gY (g := 33) rfl rfl rfl ?_
  refine st (X.dEq rfl) rfl ?_
  refine st (X.pickF rfl rfl) rfl ?_
  refine sbN rfl (rfl) rfl ?_
  refine gY (g := 37) rfl rfl rfl ?_
  refine sm rfl rfl ?_
  refine gY (g := 37) rfl rfl rfl ?_
  refine st (X.dEq rfl) rfl ?_
  refine st (X.pickF rfl rfl) rfl ?_
  refine sbN rfl (rfl) rfl ?_
  refine gY (g := 41) rfl rfl rfl ?_
  refine st (X.fa fa52_0 rfl) rfl ?_
  refine gY (g := 41) rfl rfl rfl ?_
  refine st (X.ldL rfl hB2 Tryd.underlying9 rfl rfl) rfl ?_
  refine gY (g := 41) rfl rfl rfl ?_
  refine st (X.lenS rfl rfl Tryd.underlying9) rfl ?_
  refine gY (g := 41) rfl rfl rfl ?_
  refine st (X.gtr rfl rfl) rfl ?_
  refine st (X.pickF rfl rfl) rfl ?_
  refine sb rfl rfl (fun h47 => ?_) (fun h47 => ?_)
  · first | replace h47 := of_decide_eq_true h47 | replace h47 := of_decide_eq_false (notT h47) | replace h47 := notT h47 | skip
    refine gN (g := 47) rfl rfl rfl rfl ?_
    refine gN (g := 47) rfl rfl rfl rfl ?_
    refine gN (g := 47) rfl rfl rfl rfl ?_
    refine gN (g := 47) rfl rfl rfl rfl ?_
    refine st (X.pickT rfl rfl) rfl ?_
    refine sm rfl rfl ?_
    refine gN (g := 53) rfl rfl rfl rfl ?_
    refine gN (g := 53) rfl rfl rfl rfl ?_
    refine gN (g := 53) rfl rfl rfl rfl ?_
    refine st (X.pickT rfl rfl) rfl ?_
    refine Wn ?_
    refine tN ?_
    refine W_yes rfl (rfl) ?_
    refine W_rs ?_
    refine sm rfl rfl ?_
    refine st (X.eql rfl rfl) rfl ?_
    refine sbY rfl (rfl) rfl ?_
    refine gY (g := 60) rfl rfl rfl ?_
    refine sm rfl rfl ?_
    refine gY (g := 60) rfl rfl rfl ?_
    refine st (X.eql rfl rfl) rfl ?_
    refine st (X.pickT rfl rfl) rfl ?_
    refine sbY rfl (rfl) rfl ?_
    refine gY (g := 64) rfl rfl rfl ?_
    refine sm rfl rfl ?_
    refine gY (g := 64) rfl rfl rfl ?_
    refine st (X.dNe rfl) rfl ?_
    refine st (X.pickT rfl rfl) rfl ?_
    refine sbY rfl (rfl) rfl ?_
    refine gY (g := 68) rfl rfl rfl ?_
    refine sc _ Tryd.func24 rfl (by kernel_rfl) rfl rfl ((awake_any _).mono ?_)
    rintro e_ w4 ⟨rfl, hb⟩
    refine cR ?_
    replace hbw := bthen hbw hb
    replace hB2 := hB2.bel hb
    replace hd := hd.bel hb
    replace hc := hc.bel hb
    have hz_w4 := hb.size
    clear hb
    refine st (X.pickT rfl rfl) rfl ?_
    refine sa rfl rfl ?_
    refine Wn ?_
    refine tN ?_
    refine W_ret (tR ?_)
    exact (rT rfl rfl ⟨rfl, hbw⟩).1
  · first | replace h47 := of_decide_eq_false h47 | replace h47 := of_decide_eq_true (notF h47) | replace h47 := notF h47 | skip
    refine gY (g := 47) rfl rfl rfl ?_
    refine st (X.fa fa52_1 rfl) rfl ?_
    refine gY (g := 47) rfl rfl rfl ?_
    refine st (X.ldL rfl hB2 Tryd.underlying9 rfl rfl) rfl ?_
    refine gY (g := 47) rfl rfl rfl ?_
    refine st (X.lenS rfl rfl Tryd.underlying9) rfl ?_
    refine gY (g := 47) rfl rfl rfl ?_
    refine st (X.gtr rfl rfl) rfl ?_
    refine st (X.pickF rfl rfl) rfl ?_
    refine sb rfl rfl (fun h53 => ?_) (fun h53 => ?_)
    · first | replace h53 := of_decide_eq_true h53 | replace h53 := of_decide_eq_false (notT h53) | replace h53 := notT h53 | skip
      refine gN (g := 53) rfl rfl rfl rfl ?_
      refine gN (g := 53) rfl rfl rfl rfl ?_
      refine gN (g := 53) rfl rfl rfl rfl ?_
      refine st (X.pickT rfl rfl) rfl ?_
      refine Wn ?_
      refine tN ?_
      refine W_yes rfl (rfl) ?_
      refine W_rs ?_
      refine sm rfl rfl ?_
      refine st (X.eql rfl rfl) rfl ?_
      refine sbY rfl (rfl) rfl ?_
      refine gY (g := 60) rfl rfl rfl ?_
      refine sm rfl rfl ?_
      refine gY (g := 60) rfl rfl rfl ?_
      refine st (X.eql rfl rfl) rfl ?_
      refine st (X.pickT rfl rfl) rfl ?_
      refine sbY rfl (rfl) rfl ?_
      refine gY (g := 64) rfl rfl rfl ?_
      refine sm rfl rfl ?_
      refine gY (g := 64) rfl rfl rfl ?_
      refine st (X.dNe rfl) rfl ?_
      refine st (X.pickT rfl rfl) rfl ?_
      refine sbY rfl (rfl) rfl ?_
      refine gY (g := 68) rfl rfl rfl ?_
      refine sc _ Tryd.func24 rfl (by kernel_rfl) rfl rfl ((awake_any _).mono ?_)
      rintro e_ w5 ⟨rfl, hb⟩
      refine cR ?_
      replace hbw := bthen hbw hb
      replace hB2 := hB2.bel hb
      replace hd := hd.bel hb
      replace hc := hc.bel hb
      have hz_w5 := hb.size
      clear hb
      refine st (X.pickT rfl rfl) rfl ?_
      refine sa rfl rfl ?_
      refine Wn ?_
      refine tN ?_
      refine W_ret (tR ?_)
      exact (rT rfl rfl ⟨rfl, hbw⟩).1
    · first | replace h53 := of_decide_eq_false h53 | replace h53 := of_decide_eq_true (notF h53) | replace h53 := notF h53 | skip
      refine gY (g := 53) rfl rfl rfl ?_
      refine sm rfl rfl ?_
      refine gY (g := 53) rfl rfl rfl ?_
      refine sc _ Tryd.func36 rfl (by kernel_rfl) rfl rfl ((Few_any _ l _ (h.bel hbw)).mono ?_)
      rintro e_ w6 ⟨rfl, hb⟩
      refine cR ?_
      replace hbw := bthen hbw hb
      replace hB2 := hB2.bel hb
      replace hd := hd.bel hb
      replace hc := hc.bel hb
      have hz_w6 := hb.size
      clear hb
      refine gY (g := 53) rfl rfl rfl ?_
      refine st (X.not rfl) rfl ?_
      refine st (X.pickF rfl rfl) rfl ?_
      refine Wn ?_
      refine tN ?_
      refine W_if rfl (fun h57 => ?_) (fun h57 => ?_)
      · first | replace h57 := of_decide_eq_true h57 | replace h57 := of_decide_eq_false (notT h57) | replace h57 := notT h57 | skip
        refine W_rs ?_
        refine sm rfl rfl ?_
        refine st (X.eql rfl rfl) rfl ?_
        refine sbY rfl (rfl) rfl ?_
        refine gY (g := 60) rfl rfl rfl ?_
        refine sm rfl rfl ?_
        refine gY (g := 60) rfl rfl rfl ?_
        refine st (X.eql rfl rfl) rfl ?_
        refine st (X.pickT rfl rfl) rfl ?_
        refine sbY rfl (rfl) rfl ?_
        refine gY (g := 64) rfl rfl rfl ?_
        refine sm rfl rfl ?_
        refine gY (g := 64) rfl rfl rfl ?_
        refine st (X.dNe rfl) rfl ?_
        refine st (X.pickT rfl rfl) rfl ?_
        refine sbY rfl (rfl) rfl ?_
        refine gY (g := 68) rfl rfl rfl ?_
        refine sc _ Tryd.func24 rfl (by kernel_rfl) rfl rfl ((awake_any _).mono ?_)
        rintro e_ w7 ⟨rfl, hb⟩
        refine cR ?_
        replace hbw := bthen hbw hb
        replace hB2 := hB2.bel hb
        replace hd := hd.bel hb
        replace hc := hc.bel hb
        have hz_w7 := hb.size
        clear hb
        refine st (X.pickT rfl rfl) rfl ?_
        refine sa rfl rfl ?_
        refine Wn ?_
        refine tN ?_
        refine W_ret (tR ?_)
        exact (rT rfl rfl ⟨rfl, hbw⟩).1
      · first | replace h57 := of_decide_eq_false h57 | replace h57 := of_decide_eq_true (notF h57) | replace h57 := notF h57 | skip
        obtain ⟨hf1, hf2⟩ := few_of h57
        have hL1 := (LastsAt.new (k := [122]) (lim := 1048576) (by decide)).2
        have u1 := create_good u0 [122]
        have hL2 := (hL1.append (d := x) (by simp; omega)).2
        rw [List.nil_append] at hL2
        have u2 := (append_good u1 [122] x).mono (m := 202) (by omega)
        have hL3 := hL2.sync
        rw [List.nil_append] at hL3
        have u3 := sync_good u2 [122]
        have hL4 := (hL3.append (d := y) (by simp; omega)).2
        rw [List.nil_append] at hL4
        have u4 := (append_good u3 [122] y).mono (m := 403) (by omega)
        refine W_skip ?_
        refine tN ?_
        refine W_rs ?_
        refine sm rfl rfl ?_
        refine sc _ Tryd.func25 rfl (by kernel_rfl) rfl rfl ((Create_any ga _ _ [122] _ hd.at_ u0.ok).mono ?_)
        rintro e_ w8 ⟨rfl, h1, hX⟩
        refine cR ?_
        have hn1 := hd.step h1 hX (by have := hbw.size; omega)
        have hn2 := hc.other hX hdc
        have hn3 := hc.ext (w := _) (w' := w8) hdc
        have hbwn := bchg hbw hX (fun k hk => by have := hd.lo k hk; omega)
        have hBn := hB2.chg hX (fun e => by have := hd.lo _ e; omega)
        have hzx := hX.size
        clear hd hc hbw h1 hX hB2
        have hd := hn1
        have hc := hn2
        have hbw := hbwn
        have hB2 := hBn
        clear hn1 hn2 hbwn hBn
        have hdc := hn3
        clear hn3
        refine Wn ?_
        refine tN ?_
        refine W_rs ?_
        refine sm rfl rfl ?_
        refine st (X.fa fa52_0 rfl) rfl ?_
        refine st (X.ldL rfl hB2 Tryd.underlying9 rfl rfl) rfl ?_
        refine sc _ Tryd.func26 rfl (by kernel_rfl) rfl rfl ((Append_any ga _ _ [122] x _ hd.at_ u1.ok (u1.bud (by omega)) (by omega)).mono ?_)
        rintro e_ w9 ⟨rfl, h1, hX⟩
        refine cR ?_
        have hn1 := hd.step h1 hX (by have := hbw.size; omega)
        have hn2 := hc.other hX hdc
        have hn3 := hc.ext (w := _) (w' := w9) hdc
        have hbwn := bchg hbw hX (fun k hk => by have := hd.lo k hk; omega)
        have hBn := hB2.chg hX (fun e => by have := hd.lo _ e; omega)
        have hzx := hX.size
        clear hd hc hbw h1 hX hB2
        have hd := hn1
        have hc := hn2
        have hbw := hbwn
        have hB2 := hBn
        clear hn1 hn2 hbwn hBn
        have hdc := hn3
        clear hn3
        refine Wn ?_
        refine tN ?_
        refine W_rs ?_
        refine sm rfl rfl ?_
        refine sc _ Tryd.func27 rfl (by kernel_rfl) rfl rfl ((Sync_any ga _ _ [122] _ hd.at_ u2.ok).mono ?_)
        rintro e_ w10 ⟨rfl, h1, hX⟩
        refine cR ?_
        have hn1 := hd.step h1 hX (by have := hbw.size; omega)
        have hn2 := hc.other hX hdc
        have hn3 := hc.ext (w := _) (w' := w10) hdc
        have hbwn := bchg hbw hX (fun k hk => by have := hd.lo k hk; omega)
        have hBn := hB2.chg hX (fun e => by have := hd.lo _ e; omega)
        have hzx := hX.size
        clear hd hc hbw h1 hX hB2
        have hd := hn1
        have hc := hn2
        have hbw := hbwn
        have hB2 := hBn
        clear hn1 hn2 hbwn hBn
        have hdc := hn3
        clear hn3
        refine Wn ?_
        refine tN ?_
        refine W_rs ?_
        refine sm rfl rfl ?_
        refine st (X.fa fa52_1 rfl) rfl ?_
        refine st (X.ldL rfl hB2 Tryd.underlying9 rfl rfl) rfl ?_
        refine sc _ Tryd.func26 rfl (by kernel_rfl) rfl rfl ((Append_any ga _ _ [122] y _ hd.at_ u3.ok (u3.bud (by omega)) (by omega)).mono ?_)
        rintro e_ w11 ⟨rfl, h1, hX⟩
        refine cR ?_
        have hn1 := hd.step h1 hX (by have := hbw.size; omega)
        have hn2 := hc.other hX hdc
        have hn3 := hc.ext (w := _) (w' := w11) hdc
        have hbwn := bchg hbw hX (fun k hk => by have := hd.lo k hk; omega)
        have hBn := hB2.chg hX (fun e => by have := hd.lo _ e; omega)
        have hzx := hX.size
        clear hd hc hbw h1 hX hB2
        have hd := hn1
        have hc := hn2
        have hbw := hbwn
        have hB2 := hBn
        clear hn1 hn2 hbwn hBn
        have hdc := hn3
        clear hn3
        refine Wn ?_
        refine tN ?_
        refine W_rs ?_
        refine sm rfl rfl ?_
        refine sc _ Tryd.func25 rfl (by kernel_rfl) rfl rfl ((Create_any gb _ _ [122] _ hc.at_ u0.ok).mono ?_)
        rintro e_ w12 ⟨rfl, h1, hX⟩
        refine cR ?_
        have hn1 := hc.step h1 hX (by have := hbw.size; omega)
        have hn2 := hd.other hX (fun k h1 h2 => hdc k h2 h1)
        have hn3 := hd.ext (w := _) (w' := w12) (fun k h1 h2 => hdc k h2 h1)
        have hbwn := bchg hbw hX (fun k hk => by have := hc.lo k hk; omega)
        have hBn := hB2.chg hX (fun e => by have := hc.lo _ e; omega)
        have hzx := hX.size
        clear hd hc hbw h1 hX hB2
        have hc := hn1
        have hd := hn2
        have hbw := hbwn
        have hB2 := hBn
        clear hn1 hn2 hbwn hBn
        have hdc : ∀ k, _ → ¬ _ := fun k h1 h2 => hn3 k h2 h1
        clear hn3
        refine Wn ?_
        refine tN ?_
        refine W_rs ?_
        refine sm rfl rfl ?_
        refine st (X.fa fa52_0 rfl) rfl ?_
        refine st (X.ldL rfl hB2 Tryd.underlying9 rfl rfl) rfl ?_
        refine sc _ Tryd.func26 rfl (by kernel_rfl) rfl rfl ((Append_any gb _ _ [122] x _ hc.at_ u1.ok (u1.bud (by omega)) (by omega)).mono ?_)
        rintro e_ w13 ⟨rfl, h1, hX⟩
        refine cR ?_
        have hn1 := hc.step h1 hX (by have := hbw.size; omega)
        have hn2 := hd.other hX (fun k h1 h2 => hdc k h2 h1)
        have hn3 := hd.ext (w := _) (w' := w13) (fun k h1 h2 => hdc k h2 h1)
        have hbwn := bchg hbw hX (fun k hk => by have := hc.lo k hk; omega)
        have hBn := hB2.chg hX (fun e => by have := hc.lo _ e; omega)
        have hzx := hX.size
        clear hd hc hbw h1 hX hB2
        have hc := hn1
        have hd := hn2
        have hbw := hbwn
        have hB2 := hBn
        clear hn1 hn2 hbwn hBn
        have hdc : ∀ k, _ → ¬ _ := fun k h1 h2 => hn3 k h2 h1
        clear hn3
        refine Wn ?_
        refine tN ?_
        refine W_rs ?_
        refine sm rfl rfl ?_
        refine sc _ Tryd.func27 rfl (by kernel_rfl) rfl rfl ((Sync_any gb _ _ [122] _ hc.at_ u2.ok).mono ?_)
        rintro e_ w14 ⟨rfl, h1, hX⟩
        refine cR ?_
        have hn1 := hc.step h1 hX (by have := hbw.size; omega)
        have hn2 := hd.other hX (fun k h1 h2 => hdc k h2 h1)
        have hn3 := hd.ext (w := _) (w' := w14) (fun k h1 h2 => hdc k h2 h1)
        have hbwn := bchg hbw hX (fun k hk => by have := hc.lo k hk; omega)
        have hBn := hB2.chg hX (fun e => by have := hc.lo _ e; omega)
        have hzx := hX.size
        clear hd hc hbw h1 hX hB2
        have hc := hn1
        have hd := hn2
        have hbw := hbwn
        have hB2 := hBn
        clear hn1 hn2 hbwn hBn
        have hdc : ∀ k, _ → ¬ _ := fun k h1 h2 => hn3 k h2 h1
        clear hn3
        refine Wn ?_
        refine tN ?_
        refine W_rs ?_
        refine sm rfl rfl ?_
        refine st (X.fa fa52_1 rfl) rfl ?_
        refine st (X.ldL rfl hB2 Tryd.underlying9 rfl rfl) rfl ?_
        refine sc _ Tryd.func26 rfl (by kernel_rfl) rfl rfl ((Append_any gb _ _ [122] y _ hc.at_ u3.ok (u3.bud (by omega)) (by omega)).mono ?_)
        rintro e_ w15 ⟨rfl, h1, hX⟩
        refine cR ?_
        have hn1 := hc.step h1 hX (by have := hbw.size; omega)
        have hn2 := hd.other hX (fun k h1 h2 => hdc k h2 h1)
        have hn3 := hd.ext (w := _) (w' := w15) (fun k h1 h2 => hdc k h2 h1)
        have hbwn := bchg hbw hX (fun k hk => by have := hc.lo k hk; omega)
        have hBn := hB2.chg hX (fun e => by have := hc.lo _ e; omega)
        have hzx := hX.size
        clear hd hc hbw h1 hX hB2
        have hc := hn1
        have hd := hn2
        have hbw := hbwn
        have hB2 := hBn
        clear hn1 hn2 hbwn hBn
        have hdc : ∀ k, _ → ¬ _ := fun k h1 h2 => hn3 k h2 h1
        clear hn3
        obtain ⟨D4, hD4⟩ : ∃ D4, D4 = (appendM (syncM (appendM (createM (newM 1048576) [122]).2 [122] x).2 [122]).2 [122] y).2 := ⟨_, rfl⟩
        rw [← hD4] at hd hc hL4 u4
        obtain ⟨f0, hf0, hl0, hn0, _, _⟩ := hL4.ex
        have hz4 : ZAt D4 f0 := ⟨fun p hp => by rw [hf0] at hp; rw [List.mem_singleton.1 hp]; exact .inr (.inr rfl), by rw [hf0]; exact mget_one _ _, hL4.stops⟩
        have hfok : FOk f0 := u4.ok.fok [122] f0 hz4.z
        have hnl : f0.now.length ≤ 400 := by rw [hn0, List.length_append]; omega
        have hzb := hbw.size
        refine Wn ?_
        refine tN ?_
        refine W_seq ?_
        refine W_rs ?_
        refine sa rfl rfl ?_
        refine Wn ?_
        refine tN ?_
        refine W_block ?_
        refine W_lp (fun nw16_ lw16_ w16 => ∃ i : Nat, ∃ A : DiskD, ∃ S : Nat → Prop, ∃ T : Nat → Prop, nw16_ = l.length - i ∧ lw16_ = ([(1, .slice a l.length cp), (2, .pointer (some ⟨g2, 0, none⟩)), (5, .pointer (some ⟨ga, 0, none⟩)), (7, .pointer (some ⟨gb, 0, none⟩)), (9, .int .i64 i)] : Env) ∧ (i ≤ l.length) ∧ (Below w.heap.size w w16) ∧ (Own w1.heap.size w16 ga A S) ∧ (Own w1.heap.size w16 gb D4 T) ∧ (∀ k, S k → ¬ T k) ∧ (Good (403 + 301 * i) A) ∧ (ZAt A f0) ∧ (Blk w16 g2 52 #[str x, str y, .int .i64 pick]) ∧ (w1.heap.size ≤ w16.heap.size)) _ ⟨_, ⟨0, D4, _, _, rfl, rfl, Nat.zero_le _, hbw, hd, hc, hdc, u4, hz4, hB2, by omega⟩, ⟨rfl, rfl, rfl, rfl, rfl, trivial⟩⟩ ?_
        clear hbw hd hc hdc hB2
        rintro nw16_ lw16_ w16 ⟨i, A, S, T, rfl, rfl, hi, hbw, hd, hc, hdc, hg, hz, hB2, hzw⟩
        have hz_w16 := hbw.size
        have hlt_hB2_w16 := hB2.lt
        refine W_seq ?_
        refine W_rs ?_
        refine sm rfl rfl ?_
        refine sm rfl rfl ?_
        refine st (X.lenL rfl rfl Tryd.underlying54) rfl ?_
        refine st (X.lss rfl rfl) rfl ?_
        refine Wn ?_
        refine tN ?_
        refine W_if rfl (fun h98 => ?_) (fun h98 => ?_)
        · first | replace h98 := of_decide_eq_true h98 | replace h98 := of_decide_eq_false (notT h98) | replace h98 := notT h98 | skip
          obtain ⟨q, hq⟩ : ∃ q, l[i]? = some q := ⟨_, List.getElem?_eq_getElem (by omega)⟩
          obtain ⟨g1, o1, c', hv, hg1⟩ := h.1.some_ (by omega)
          injection hv with e1 _ e3
          subst e1 e3
          have hmem := List.mem_of_getElem? hq
          have hfq := hf2 q hmem
          obtain ⟨ap, cp_, hvp, hcp_, _⟩ := (h.2 q hmem).picks.shape
          have hcl : q.cells = [.int .i64 q.ask, str q.name, str q.to_, .int .i64 q.at_, .int .i64 q.n, str q.data, .slice ap q.picks.length cp_] := by rw [← hvp]; rfl
          obtain ⟨q2, hq2⟩ : ∃ q2 : OpM, q2 = { q with name := [97], to_ := [98] } := ⟨_, rfl⟩
          have hcl2 : q2.cells.toArray = #[.int .i64 q.ask, str [97], str [98], .int .i64 q.at_, .int .i64 q.n, str q.data, .slice ap q.picks.length cp_] := by rw [hq2, ← hvp]; rfl
          have hfq2 : fewO q2 = true := by
            rw [hq2]
            unfold fewO at hfq ⊢
            simp only [Bool.and_eq_true, decide_eq_true_eq] at hfq ⊢
            exact ⟨⟨⟨by simp, by simp⟩, hfq.1.2⟩, hfq.2⟩
          have hz2 := hz
          have hg2 := hg.mono (m := 403 + 301 * (i + 1)) (by omega)
          have hok2 : q2.ok w := by rw [hq2]; exact ⟨(h.2 q hmem).n, (h.2 q hmem).at_, (h.2 q hmem).picks⟩
          refine W_skip ?_
          refine tN ?_
          refine W_seq ?_
          refine W_block ?_
          refine W_rs ?_
          refine sm rfl rfl ?_
          refine sm rfl rfl ?_
          refine st (X.idxA rfl rfl Tryd.underlying54 siz58 rfl (by omega)) rfl ?_
          refine st (X.ldN (cs := [.int .i64 q.ask, str q.name, str q.to_, .int .i64 q.at_, .int .i64 q.n, str q.data, .slice ap q.picks.length cp_]) rfl Tryd.underlying58 rfl siz58 (by rw [← hcl]; exact (h.bel hbw).1.rec_ (f := OpM.cells) (fun a _ => OpM.cells_length a) hq)) rfl ?_
          have hloA := hd.lo
          have hloB := hc.lo
          have hg2l := hB2.lt
          refine salA inf58 rfl (fun g10 w17 hB10 hg10 hb hl10 => ?_)
          replace hbw := bthen hbw hb
          replace hd := hd.bel hb
          replace hc := hc.bel hb
          replace hB2 := hB2.bel hb
          have hz_w17 := hb.size
          clear hb
          refine ssBN rfl rfl hB10 siz58 rfl rfl (fun w18 hBn hC => ?_)
          have hn1 := hd.other hC (fun k (h1 : k = g10) h2 => by have := hloA k h2; omega)
          have hn2 := hc.other hC (fun k (h1 : k = g10) h2 => by have := hloB k h2; omega)
          have hn3 := hB2.chg hC (by omega)
          have hn4 := bchg hbw hC (fun k (hk : k = g10) => by omega)
          have hzx := hC.size
          clear hd hc hB2 hbw hB10
          have hd := hn1
          have hc := hn2
          have hB2 := hn3
          have hbw := hn4
          have hB10 := hBn
          clear hn1 hn2 hn3 hn4 hBn
          refine Wn ?_
          refine tN ?_
          refine W_seq ?_
          refine W_rs ?_
          refine st (X.fa fa58_0 rfl) rfl ?_
          refine st (X.ldL rfl hB10 Tryd.underlying3 rfl rfl) rfl ?_
          refine st (X.lss rfl rfl) rfl ?_
          refine sb rfl rfl (fun h108 => ?_) (fun h108 => ?_)
          · first | replace h108 := of_decide_eq_true h108 | replace h108 := of_decide_eq_false (notT h108) | replace h108 := notT h108 | skip
            refine gN (g := 108) rfl rfl rfl rfl ?_
            refine gN (g := 108) rfl rfl rfl rfl ?_
            refine gN (g := 108) rfl rfl rfl rfl ?_
            refine st (X.pickT rfl rfl) rfl ?_
            refine Wn ?_
            refine tN ?_
            refine W_yes rfl (rfl) ?_
            refine W_exit (tE (bH ?_))
            refine tN ?_
            refine W_reg ?_
            refine sm rfl rfl ?_
            refine st (X.add64 rfl rfl (by omega)) rfl ?_
            refine sa rfl rfl ?_
            refine Wn ?_
            refine tN ⟨_, _, ?_, ⟨i + 1, _, _, _, rfl, rfl, by omega, hbw, hd, hc, hdc, hg2, hz2, hB2, by omega⟩, ⟨rfl, rfl, rfl, rfl, rfl, trivial⟩⟩
            omega
          · first | replace h108 := of_decide_eq_false h108 | replace h108 := of_decide_eq_true (notF h108) | replace h108 := notF h108 | skip
            refine gY (g := 108) rfl rfl rfl ?_
            refine st (X.fa fa58_0 rfl) rfl ?_
            refine gY (g := 108) rfl rfl rfl ?_
            refine st (X.ldL rfl hB10 Tryd.underlying3 rfl rfl) rfl ?_
            refine gY (g := 108) rfl rfl rfl ?_
            refine st (X.gtr rfl rfl) rfl ?_
            refine st (X.pickF rfl rfl) rfl ?_
            refine Wn ?_
            refine tN ?_
            refine W_if rfl (fun h112 => ?_) (fun h112 => ?_)
            · first | replace h112 := of_decide_eq_true h112 | replace h112 := of_decide_eq_false (notT h112) | replace h112 := notT h112 | skip
              refine W_exit (tE (bH ?_))
              refine tN ?_
              refine W_reg ?_
              refine sm rfl rfl ?_
              refine st (X.add64 rfl rfl (by omega)) rfl ?_
              refine sa rfl rfl ?_
              refine Wn ?_
              refine tN ⟨_, _, ?_, ⟨i + 1, _, _, _, rfl, rfl, by omega, hbw, hd, hc, hdc, hg2, hz2, hB2, by omega⟩, ⟨rfl, rfl, rfl, rfl, rfl, trivial⟩⟩
              omega
            · first | replace h112 := of_decide_eq_false h112 | replace h112 := of_decide_eq_true (notF h112) | replace h112 := notF h112 | skip
              refine W_skip ?_
              refine tN ?_
              refine W_rs ?_
              refine st (X.fa fa58_1 rfl) rfl ?_
              refine ssB rfl rfl hB10 siz9 rfl (by simp) (fun w19 hBn hC => ?_)
              have hn1 := hd.other hC (fun k (h1 : k = g10) h2 => by have := hloA k h2; omega)
              have hn2 := hc.other hC (fun k (h1 : k = g10) h2 => by have := hloB k h2; omega)
              have hn3 := hB2.chg hC (by omega)
              have hn4 := bchg hbw hC (fun k (hk : k = g10) => by omega)
              have hzx := hC.size
              clear hd hc hB2 hbw hB10
              have hd := hn1
              have hc := hn2
              have hB2 := hn3
              have hbw := hn4
              have hB10 := hBn
              clear hn1 hn2 hn3 hn4 hBn
              refine Wn ?_
              refine tN ?_
              refine W_rs ?_
              refine st (X.fa fa58_2 rfl) rfl ?_
              refine ssB rfl rfl hB10 siz9 rfl (by simp) (fun w20 hBn hC => ?_)
              have hn1 := hd.other hC (fun k (h1 : k = g10) h2 => by have := hloA k h2; omega)
              have hn2 := hc.other hC (fun k (h1 : k = g10) h2 => by have := hloB k h2; omega)
              have hn3 := hB2.chg hC (by omega)
              have hn4 := bchg hbw hC (fun k (hk : k = g10) => by omega)
              have hzx := hC.size
              clear hd hc hB2 hbw hB10
              have hd := hn1
              have hc := hn2
              have hB2 := hn3
              have hbw := hn4
              have hB10 := hBn
              clear hn1 hn2 hn3 hn4 hBn
              refine Wn ?_
              refine tN ?_
              refine W_reg ?_
              refine sm rfl rfl ?_
              refine st (X.ldBN rfl hB10 Tryd.underlying58 rfl siz58) rfl ?_
              refine sc _ Tryd.func37 rfl (by kernel_rfl) rfl rfl ((does_anyE ga A S q2 (403 + 301 * i) hcl2 _ hd.at_ hg (by omega) ⟨hok2.n, hok2.at_, hok2.picks.belowAll hbw⟩ hfq2 (fun h0 k hk hs => by have := hok2.picks.ownLt h0 hk; have := hd.lo k hs; omega) (fun k hk => (hd.lo k hk).2)).mono ?_)
              rintro e_ w21 ⟨rfl, h1, hX⟩
              refine cR ?_
              have hn1 := hd.step h1 hX (by have := hbw.size; omega)
              have hn2 := hc.other hX hdc
              have hn3 := hc.ext (w := _) (w' := w21) hdc
              have hbwn := bchg hbw hX (fun k hk => by have := hd.lo k hk; omega)
              have hBn := hB2.chg hX (fun e => by have := hd.lo _ e; omega)
              have hzx := hX.size
              clear hd hc hbw h1 hX hB2
              have hd := hn1
              have hc := hn2
              have hbw := hbwn
              have hB2 := hBn
              clear hn1 hn2 hbwn hBn
              have hdc := hn3
              clear hn3
              clear hz2 hg2
              have hz2 := zat_does (o := q2) hz hg.ok.srt (by rw [hq2]) (by rw [hq2]) (by rw [hq2]; show 0 ≤ q.ask ∧ q.ask ≤ 5; omega)
              have hg2 : Good (403 + 301 * (i + 1)) (doesM A q2).2 := (does_good hg hfq2 hok2.n.2).mono (by omega)
              refine Wn ?_
              refine bN ?_
              refine tN ?_
              refine W_reg ?_
              refine sm rfl rfl ?_
              refine st (X.add64 rfl rfl (by omega)) rfl ?_
              refine sa rfl rfl ?_
              refine Wn ?_
              refine tN ⟨_, _, ?_, ⟨i + 1, _, _, _, rfl, rfl, by omega, hbw, hd, hc, hdc, hg2, hz2, hB2, by omega⟩, ⟨rfl, rfl, rfl, rfl, rfl, trivial⟩⟩
              omega
        · first | replace h98 := of_decide_eq_false h98 | replace h98 := of_decide_eq_true (notF h98) | replace h98 := notF h98 | skip
          obtain ⟨hln, hzc⟩ := hz.crash hg.ok.srt pick
          obtain ⟨nn, hnn2⟩ : ∃ nn, A.files.length = nn := ⟨_, rfl⟩
          have hnm : (namesM A).length = nn := by rw [← hnn2]; simp [namesM]
          have hn6 : nn ≤ 1000000 := by have := hg.few; omega
          rw [hnn2] at hln hzc
          refine W_exit (tE (tE (bH ?_)))
          refine tN ?_
          refine W_rs ?_
          refine sm rfl rfl ?_
          refine sc _ Tryd.func29 rfl (by kernel_rfl) rfl rfl ((Read_is hd.at_ hg.ok (ZAt.read (n := 1000) hz.z (by omega))).mono ?_)
          rintro e_ w22 ⟨rfl, hb⟩
          refine cR ?_
          replace hbw := bthen hbw hb
          replace hd := hd.bel hb
          replace hc := hc.bel hb
          replace hB2 := hB2.bel hb
          have hz_w22 := hb.size
          clear hb
          refine sm rfl rfl ?_
          refine st (X.ext rfl rfl) rfl ?_
          refine st (X.ext rfl rfl) rfl ?_
          refine sa rfl rfl ?_
          refine sa rfl rfl ?_
          refine Wn ?_
          refine tN ?_
          refine W_rs ?_
          refine sm rfl rfl ?_
          refine sc _ Tryd.func33 rfl (by kernel_rfl) rfl rfl ((List_any ga _ _ _ hd.at_ hg.ok.srt (by omega)).mono ?_)
          rintro e_ w23 ⟨v1, rfl, hR1, hO1, hb⟩
          refine cR ?_
          replace hbw := bthen hbw hb
          replace hd := hd.bel hb
          replace hc := hc.bel hb
          replace hB2 := hB2.bel hb
          have hz_w23 := hb.size
          clear hb
          rw [hnm] at hR1
          obtain ⟨a1, c1, hv1, _⟩ := hR1.shape
          subst hv1
          clear hR1 hO1
          refine st (X.lenL rfl rfl Tryd.underlying23) rfl ?_
          refine sa rfl rfl ?_
          refine Wn ?_
          refine tN ?_
          refine W_seq ?_
          refine W_rs ?_
          refine sm rfl rfl ?_
          refine st (X.neq rfl rfl) rfl ?_
          refine sbN rfl (rfl) rfl ?_
          refine gY (g := 128) rfl rfl rfl ?_
          refine sm rfl rfl ?_
          refine gY (g := 128) rfl rfl rfl ?_
          refine st (X.fa fa52_0 rfl) rfl ?_
          refine gY (g := 128) rfl rfl rfl ?_
          refine st (X.ldL rfl hB2 Tryd.underlying9 rfl rfl) rfl ?_
          refine gY (g := 128) rfl rfl rfl ?_
          refine st (X.fa fa52_1 rfl) rfl ?_
          refine gY (g := 128) rfl rfl rfl ?_
          refine st (X.ldL rfl hB2 Tryd.underlying9 rfl rfl) rfl ?_
          refine gY (g := 128) rfl rfl rfl ?_
          refine st (X.cat rfl rfl (by omega)) rfl ?_
          refine gY (g := 128) rfl rfl rfl ?_
          refine st (X.neS rfl rfl) rfl ?_
          refine st (X.pickF rfl rfl) rfl ?_
          refine sbN rfl (decide_eq_false (by rw [hn0]; simp)) rfl ?_
          refine gY (g := 137) rfl rfl rfl ?_
          refine sm rfl rfl ?_
          refine gY (g := 137) rfl rfl rfl ?_
          refine st (X.lss rfl rfl) rfl ?_
          refine st (X.pickF rfl rfl) rfl ?_
          refine Wn ?_
          refine tN ?_
          refine W_no rfl (decide_eq_false (by omega)) ?_
          refine W_skip ?_
          refine tN ?_
          refine W_rs ?_
          refine sm rfl rfl ?_
          have hloA := hd.lo
          have hloB := hc.lo
          refine smk (q := nn) rfl rfl rfl rfl Tryd.underlying56 inf3 (by omega) (by simp only [maxLen]; omega) rfl (fun g142 w24 hR142 hg142 hb => ?_)
          replace hbw := bthen hbw hb
          replace hd := hd.bel hb
          replace hc := hc.bel hb
          replace hB2 := hB2.bel hb
          have hz142 := hb.size
          have hl142 := hb.size
          clear hb
          refine sa rfl rfl ?_
          refine Wn ?_
          refine tN ?_
          refine W_rs ?_
          refine sm rfl rfl ?_
          refine sm rfl rfl ?_
          refine st (X.sub64 rfl rfl (by omega)) rfl ?_
          refine st (X.fa fa52_2 rfl) rfl ?_
          refine st (X.ldL rfl hB2 Tryd.underlying3 rfl rfl) rfl ?_
          refine st (X.idxA (j := nn - 1) rfl rfl Tryd.underlying56 siz3 (by omega) (by omega)) rfl ?_
          refine ssR (j := nn - 1) (by rw [Nat.mul_one]; rfl) rfl hR142 (by omega) siz3 rfl (fun w25 hR hC => ?_)
          have hnA : ∀ k, S k → ¬ k = g142 := fun k h1 h2 => by have := hloA k h1; omega
          have hnB : ∀ k, T k → ¬ k = g142 := fun k h1 h2 => by have := hloB k h1; omega
          have hn1 := hd.other hC (fun k h1 h2 => hnA k h2 h1)
          have hn2 := hc.other hC (fun k h1 h2 => hnB k h2 h1)
          have hn3 := hB2.chg hC (by omega)
          have hn4 := bchg hbw hC (fun k hk => by rw [hk]; omega)
          have hz143 := hC.size
          clear hd hc hB2 hbw
          have hd := hn1
          have hc := hn2
          have hB2 := hn3
          have hbw := hn4
          clear hn1 hn2 hn3 hn4
          rw [made_ints, ← List.map_set] at hR
          have hkl : ((List.replicate nn (0 : Int)).set (nn - 1) pick).length = nn := by simp
          have hKs : Reads w25 1 (.slice (some ⟨g142, 0, none⟩) nn nn) ((List.replicate nn (0 : Int)).set (nn - 1) pick).length (((List.replicate nn (0 : Int)).set (nn - 1) pick).map fun k => .int .i64 k) := by
            rw [hkl]
            exact hR.reads
          refine Wn ?_
          refine tN ?_
          refine W_rs ?_
          refine sm rfl rfl ?_
          refine sm rfl rfl ?_
          refine sc _ Tryd.func28 rfl (by kernel_rfl) rfl rfl ((Crash_any ga A S _ ((List.replicate nn (0 : Int)).set (nn - 1) pick) _ hd.at_ hg.ok (hg.bud (by omega)) (by omega) hKs (fun _ k hk h1 => by simp [Value.ownBlock] at hk; exact hnA k h1 hk.symm)).mono ?_)
          rintro e_ w26 ⟨rfl, h1, hX⟩
          refine cR ?_
          have hn1 := hd.step h1 hX (by have := hbw.size; omega)
          have hn2 := hc.other hX hdc
          have hn3 := hc.ext (w := _) (w' := w26) hdc
          have hbwn := bchg hbw hX (fun k hk => by have := hd.lo k hk; omega)
          have hBn := hB2.chg hX (fun e => by have := hd.lo _ e; omega)
          have hzx := hX.size
          clear hd hc hbw h1 hX hB2
          have hd := hn1
          have hc := hn2
          have hbw := hbwn
          have hB2 := hBn
          clear hn1 hn2 hbwn hBn
          have hdc := hn3
          clear hn3
          have hgC := crash_good hg ((List.replicate nn (0 : Int)).set (nn - 1) pick)
          clear hloB
          refine Wn ?_
          refine tN ?_
          refine W_rs ?_
          refine sm rfl rfl ?_
          refine st (X.fa fa52_2 rfl) rfl ?_
          refine st (X.ldL rfl hB2 Tryd.underlying3 rfl rfl) rfl ?_
          have hloB := hc.lo
          refine sbs1 rfl Tryd.underlying56 inf3 rfl rfl (by decide) (by decide) rfl (fun g155 w27 hR155 hg155 hb => ?_)
          replace hbw := bthen hbw hb
          replace hd := hd.bel hb
          replace hc := hc.bel hb
          replace hB2 := hB2.bel hb
          have hz_w27 := hb.size
          clear hb
          have hl155 := hR155.blt (by decide)
          refine sc _ Tryd.func28 rfl (by kernel_rfl) rfl rfl ((Crash_any gb D4 T _ [pick] _ hc.at_ u4.ok (u4.bud (by omega)) (by have := u4.few; omega) hR155.reads (fun _ k hk h1 => by simp [Value.ownBlock] at hk; have := hloB k h1; omega)).mono ?_)
          rintro e_ w28 ⟨rfl, h1, hX⟩
          refine cR ?_
          have hn1 := hc.step h1 hX (by have := hbw.size; omega)
          have hn2 := hd.other hX (fun k h1 h2 => hdc k h2 h1)
          have hn3 := hd.ext (w := _) (w' := w28) (fun k h1 h2 => hdc k h2 h1)
          have hbwn := bchg hbw hX (fun k hk => by have := hc.lo k hk; omega)
          have hBn := hB2.chg hX (fun e => by have := hc.lo _ e; omega)
          have hzx := hX.size
          clear hd hc hbw h1 hX hB2
          have hc := hn1
          have hd := hn2
          have hbw := hbwn
          have hB2 := hBn
          clear hn1 hn2 hbwn hBn
          have hdc : ∀ k, _ → ¬ _ := fun k h1 h2 => hn3 k h2 h1
          clear hn3
          have hgB := crash_good u4 [pick]
          have hrd : readM (crashD A ((List.replicate nn (0 : Int)).set (nn - 1) pick)) [122] 0 1000 = ((crashM f0 (keptM f0 pick)).now, 0) := ZAt.read (n := 1000) hzc (by have := hfok.crash_len (keptM f0 pick); omega)
          have hrd2 : readM (crashD D4 [pick]) [122] 0 1000 = ((crashM f0 (keptM f0 pick)).now, 0) := ZAt.read (n := 1000) (by show mget (crashAll D4.files [pick]) [122] = _; rw [hf0]; rfl) (by have := hfok.crash_len (keptM f0 pick); omega)
          refine Wn ?_
          refine tN ?_
          refine W_rs ?_
          refine sm rfl rfl ?_
          refine sc _ Tryd.func29 rfl (by kernel_rfl) rfl rfl ((Read_is hd.at_ hgC.ok hrd).mono ?_)
          rintro e_ w29 ⟨rfl, hb⟩
          refine cR ?_
          replace hbw := bthen hbw hb
          replace hd := hd.bel hb
          replace hc := hc.bel hb
          replace hB2 := hB2.bel hb
          have hz_w29 := hb.size
          clear hb
          refine sm rfl rfl ?_
          refine st (X.ext rfl rfl) rfl ?_
          refine st (X.ext rfl rfl) rfl ?_
          refine sa rfl rfl ?_
          refine sa rfl rfl ?_
          refine Wn ?_
          refine tN ?_
          refine W_rs ?_
          refine sm rfl rfl ?_
          refine sc _ Tryd.func29 rfl (by kernel_rfl) rfl rfl ((Read_is hc.at_ hgB.ok hrd2).mono ?_)
          rintro e_ w30 ⟨rfl, hb⟩
          refine cR ?_
          replace hbw := bthen hbw hb
          replace hd := hd.bel hb
          replace hc := hc.bel hb
          replace hB2 := hB2.bel hb
          have hz_w30 := hb.size
          clear hb
          refine sm rfl rfl ?_
          refine st (X.ext rfl rfl) rfl ?_
          refine st (X.ext rfl rfl) rfl ?_
          refine sa rfl rfl ?_
          refine sa rfl rfl ?_
          refine Wn ?_
          refine tN ?_
          refine W_rs ?_
          refine sm rfl rfl ?_
          refine st (X.eql rfl rfl) rfl ?_
          refine sbY rfl (rfl) rfl ?_
          refine gY (g := 169) rfl rfl rfl ?_
          refine sm rfl rfl ?_
          refine gY (g := 169) rfl rfl rfl ?_
          refine st (X.eql rfl rfl) rfl ?_
          refine st (X.pickT rfl rfl) rfl ?_
          refine sbY rfl (rfl) rfl ?_
          refine gY (g := 173) rfl rfl rfl ?_
          refine sm rfl rfl ?_
          refine gY (g := 173) rfl rfl rfl ?_
          refine sm rfl rfl ?_
          refine gY (g := 173) rfl rfl rfl ?_
          refine st (X.eqS rfl rfl) rfl ?_
          refine st (X.pickT rfl rfl) rfl ?_
          refine sbY rfl (decide_eq_true rfl) rfl ?_
          refine gY (g := 178) rfl rfl rfl ?_
          refine sc _ Tryd.func24 rfl (by kernel_rfl) rfl rfl ((awake_any _).mono ?_)
          rintro e_ w31 ⟨rfl, hb⟩
          refine cR ?_
          replace hbw := bthen hbw hb
          replace hd := hd.bel hb
          replace hc := hc.bel hb
          replace hB2 := hB2.bel hb
          have hz_w31 := hb.size
          clear hb
          refine st (X.pickT rfl rfl) rfl ?_
          refine sa rfl rfl ?_
          refine Wn ?_
          refine tN ?_
          refine W_ret ?_
          exact (rT rfl rfl ⟨rfl, hbw⟩).1
end Go.Proofs.YtnijmegalgoipaaDoor
