/- The law DiskNil. -/
import Derived.Test.YtnijmegalgoipaaDoorDiskX
namespace Go.Proofs.YtnijmegalgoipaaDoor
open Go.RowKit
set_option maxRecDepth 10000 in
theorem DiskNil_walk (w : World) (o : OpM) (ho : o.ok w) :
    Calls Tryd.prog 10 #[.agg o.cells.toArray] w fun e w' => e = .returned (.bool true) ∧ Below w.heap.size w w' := by
  have hK := ho.picks
  obtain ⟨ap, cp, hvp, hcp, _⟩ := hK.shape
  have hcells : o.cells.toArray = #[.int .i64 o.ask, str o.name, str o.to_, .int .i64 o.at_, .int .i64 o.n, str o.data, .slice ap o.picks.length cp] := by rw [← hvp]; rfl
  have hfl : [o].flatMap OpM.cells = [.int .i64 o.ask, str o.name, str o.to_, .int .i64 o.at_, .int .i64 o.n, str o.data, .slice ap o.picks.length cp] := by rw [← hvp]; rfl
  rw [hcells]
  refine W_enter (args := [.agg #[.int .i64 o.ask, str o.name, str o.to_, .int .i64 o.at_, .int .i64 o.n, str o.data, .slice ap o.picks.length cp]]) 68 Tryd.func10 rfl rfl rfl ?_
  refine W_sub [(0, .agg #[.int .i64 o.ask, str o.name, str o.to_, .int .i64 o.at_, .int .i64 o.n, str o.data, .slice ap o.picks.length cp])] ?_ ⟨rfl, trivial⟩
  have hbw := Below.refl w.heap.size w
  refine W_rs ?_
  refine sboxA rfl rfl (fun g1 w1 hB1 hg1 hb hl1 => ?_)
  replace hbw := bthen hbw hb
  replace ho := ho.bel hb
  have hz_w1 := hb.size
  clear hb
  refine sa rfl rfl ?_
  refine Wn ?_
  refine tN ?_
  refine W_seq ?_
  refine W_rs ?_
  refine st (X.ldBN rfl hB1 Tryd.underlying58 rfl siz58) rfl ?_
  refine sbs1 rfl Tryd.underlying54 inf58 rfl rfl (by decide) (by decide) rfl (fun g8 w2 hR8 hg8 hb => ?_)
  replace hbw := bthen hbw hb
  replace ho := ho.bel hb
  replace hB1 := hB1.bel hb
  have hz_w2 := hb.size
  clear hb
  have hl8 := hR8.blt (by decide)
  refine sc _ Tryd.func36 rfl (by kernel_rfl) rfl rfl ((Few_any _ [o] _ ⟨by rw [hfl]; exact hR8.reads, fun q hq => by rw [List.mem_singleton.1 hq]; exact ho⟩).mono ?_)
  rintro e_ w3 ⟨rfl, hb⟩
  refine cR ?_
  replace hbw := bthen hbw hb
  replace ho := ho.bel hb
  replace hB1 := hB1.bel hb
  replace hR8 := hR8.bel hb
  have hz_w3 := hb.size
  clear hb
  refine st (X.not rfl) rfl ?_
  refine Wn ?_
  refine tN ?_
  refine W_if rfl (fun h10 => ?_) (fun h10 => ?_)
  · first | replace h10 := of_decide_eq_true h10 | replace h10 := of_decide_eq_false (notT h10) | replace h10 := notT h10 | skip
    refine W_rs ?_
    refine sc _ Tryd.func24 rfl (by kernel_rfl) rfl rfl ((awake_any _).mono ?_)
    rintro e_ w4 ⟨rfl, hb⟩
    refine cR ?_
    replace hbw := bthen hbw hb
    replace ho := ho.bel hb
    replace hB1 := hB1.bel hb
    replace hR8 := hR8.bel hb
    have hz_w4 := hb.size
    clear hb
    refine sa rfl rfl ?_
    refine Wn ?_
    refine tN ?_
    refine W_ret (tR ?_)
    exact (rT rfl rfl ⟨rfl, hbw⟩).1
  · first | replace h10 := of_decide_eq_false h10 | replace h10 := of_decide_eq_true (notF h10) | replace h10 := notF h10 | skip
    have hfo : fewO o = true := by
      unfold fewM at h10
      simp only [Bool.and_eq_true, List.all_cons] at h10
      exact h10.2.1
    refine W_skip ?_
    refine tN ?_
    refine W_rs ?_
    refine sa rfl rfl ?_
    refine Wn ?_
    refine tN ?_
    refine W_rs ?_
    refine sm rfl rfl ?_
    refine st (X.ldBN rfl hB1 Tryd.underlying58 rfl siz58) rfl ?_
    refine sc _ Tryd.func37 rfl (by kernel_rfl) rfl rfl ((does_nilE o hcells _ ho hfo).mono ?_)
    rintro e_ w5 ⟨rfl, hb⟩
    refine cR ?_
    replace hbw := bthen hbw hb
    replace ho := ho.bel hb
    replace hB1 := hB1.bel hb
    replace hR8 := hR8.bel hb
    have hz_w5 := hb.size
    clear hb
    refine sm rfl rfl ?_
    refine st (X.ext rfl rfl) rfl ?_
    refine st (X.ext rfl rfl) rfl ?_
    refine st (X.ext rfl rfl) rfl ?_
    refine sa rfl rfl ?_
    refine sa rfl rfl ?_
    refine sa rfl rfl ?_
    refine Wn ?_
    refine tN ?_
    refine W_rs ?_
    refine sm rfl rfl ?_
    refine st (X.eqS rfl rfl) rfl ?_
    refine sbY rfl (rfl) rfl ?_
    refine gY (g := 21) rfl rfl rfl ?_
    refine sm rfl rfl ?_
    refine gY (g := 21) rfl rfl rfl ?_
    refine st (X.eql rfl rfl) rfl ?_
    refine st (X.pickT rfl rfl) rfl ?_
    refine sbY rfl (rfl) rfl ?_
    refine gY (g := 25) rfl rfl rfl ?_
    refine sm rfl rfl ?_
    refine gY (g := 25) rfl rfl rfl ?_
    refine st (X.eql rfl rfl) rfl ?_
    refine gY (g := 25) rfl rfl rfl ?_
    refine sb rfl rfl (fun h28 => ?_) (fun h28 => ?_)
    · first | replace h28 := of_decide_eq_true h28 | replace h28 := of_decide_eq_false (notT h28) | replace h28 := notT h28 | skip
      refine gN (g := 28) rfl rfl rfl rfl ?_
      refine gN (g := 28) rfl rfl rfl rfl ?_
      refine gN (g := 28) rfl rfl rfl rfl ?_
      refine gY (g := 25) rfl rfl rfl ?_
      refine st (X.pickT rfl rfl) rfl ?_
      refine gY (g := 25) rfl rfl rfl ?_
      refine sm rfl rfl ?_
      refine gN (g := 33) rfl rfl rfl rfl ?_
      refine gN (g := 33) rfl rfl rfl rfl ?_
      refine gN (g := 33) rfl rfl rfl rfl ?_
      refine gY (g := 25) rfl rfl rfl ?_
      refine st (X.pickT rfl rfl) rfl ?_
      refine st (X.pickT rfl rfl) rfl ?_
      refine sm rfl rfl ?_
      refine gY (g := 39) rfl rfl rfl ?_
      refine sm rfl rfl ?_
      refine gY (g := 39) rfl rfl rfl ?_
      refine sc _ Tryd.func33 rfl (by kernel_rfl) rfl rfl ((List_nil _).mono ?_)
      rintro e_ w6 ⟨rfl, hb⟩
      refine cR ?_
      replace hbw := bthen hbw hb
      replace ho := ho.bel hb
      replace hB1 := hB1.bel hb
      replace hR8 := hR8.bel hb
      have hz_w6 := hb.size
      clear hb
      refine gY (g := 39) rfl rfl rfl ?_
      refine st (X.lenL rfl rfl Tryd.underlying23) rfl ?_
      refine gY (g := 39) rfl rfl rfl ?_
      refine st (X.eql rfl rfl) rfl ?_
      refine st (X.pickT rfl rfl) rfl ?_
      refine sbY rfl (rfl) rfl ?_
      refine gY (g := 45) rfl rfl rfl ?_
      refine sm rfl rfl ?_
      refine gY (g := 45) rfl rfl rfl ?_
      refine sc _ Tryd.func30 rfl (by kernel_rfl) rfl rfl ((Used_nil _).mono ?_)
      rintro e_ w7 ⟨rfl, hb⟩
      refine cR ?_
      replace hbw := bthen hbw hb
      replace ho := ho.bel hb
      replace hB1 := hB1.bel hb
      replace hR8 := hR8.bel hb
      have hz_w7 := hb.size
      clear hb
      refine gY (g := 45) rfl rfl rfl ?_
      refine st (X.eql rfl rfl) rfl ?_
      refine st (X.pickT rfl rfl) rfl ?_
      refine sbY rfl (rfl) rfl ?_
      refine gY (g := 50) rfl rfl rfl ?_
      refine sm rfl rfl ?_
      refine gY (g := 50) rfl rfl rfl ?_
      refine sc _ Tryd.func41 rfl (by kernel_rfl) rfl rfl ((Limit_nil _).mono ?_)
      rintro e_ w8 ⟨rfl, hb⟩
      refine cR ?_
      replace hbw := bthen hbw hb
      replace ho := ho.bel hb
      replace hB1 := hB1.bel hb
      replace hR8 := hR8.bel hb
      have hz_w8 := hb.size
      clear hb
      refine gY (g := 50) rfl rfl rfl ?_
      refine st (X.eql rfl rfl) rfl ?_
      refine st (X.pickT rfl rfl) rfl ?_
      refine sbY rfl (rfl) rfl ?_
      refine gY (g := 55) rfl rfl rfl ?_
      refine sm rfl rfl ?_
      refine gY (g := 55) rfl rfl rfl ?_
      refine sc _ Tryd.func40 rfl (by kernel_rfl) rfl rfl ((Refused_nil _).mono ?_)
      rintro e_ w9 ⟨rfl, hb⟩
      refine cR ?_
      replace hbw := bthen hbw hb
      replace ho := ho.bel hb
      replace hB1 := hB1.bel hb
      replace hR8 := hR8.bel hb
      have hz_w9 := hb.size
      clear hb
      refine gY (g := 55) rfl rfl rfl ?_
      refine st (X.eql rfl rfl) rfl ?_
      refine st (X.pickT rfl rfl) rfl ?_
      refine sbY rfl (rfl) rfl ?_
      refine gY (g := 60) rfl rfl rfl ?_
      refine sm rfl rfl ?_
      refine gY (g := 60) rfl rfl rfl ?_
      refine sc _ Tryd.func42 rfl (by kernel_rfl) rfl rfl ((Copy_nil _).mono ?_)
      rintro e_ w10 ⟨rfl, hb⟩
      refine cR ?_
      replace hbw := bthen hbw hb
      replace ho := ho.bel hb
      replace hB1 := hB1.bel hb
      replace hR8 := hR8.bel hb
      have hz_w10 := hb.size
      clear hb
      refine gY (g := 60) rfl rfl rfl ?_
      refine st (X.dEq rfl) rfl ?_
      refine st (X.pickT rfl rfl) rfl ?_
      refine sbY rfl (rfl) rfl ?_
      refine gY (g := 65) rfl rfl rfl ?_
      refine sc _ Tryd.func24 rfl (by kernel_rfl) rfl rfl ((awake_any _).mono ?_)
      rintro e_ w11 ⟨rfl, hb⟩
      refine cR ?_
      replace hbw := bthen hbw hb
      replace ho := ho.bel hb
      replace hB1 := hB1.bel hb
      replace hR8 := hR8.bel hb
      have hz_w11 := hb.size
      clear hb
      refine st (X.pickT rfl rfl) rfl ?_
      refine sa rfl rfl ?_
      refine Wn ?_
      refine tN ?_
      refine W_ret ?_
      exact (rT rfl rfl ⟨rfl, hbw⟩).1
    · first | replace h28 := of_decide_eq_false h28 | replace h28 := of_decide_eq_true (notF h28) | replace h28 := notF h28 | skip
      refine gY (g := 28) rfl rfl rfl ?_
      refine st (X.fa fa58_0 rfl) rfl ?_
      refine gY (g := 28) rfl rfl rfl ?_
      refine st (X.ldL rfl hB1 Tryd.underlying3 rfl rfl) rfl ?_
      refine gY (g := 28) rfl rfl rfl ?_
      refine st (X.eql rfl rfl) rfl ?_
      refine gY (g := 25) rfl rfl rfl ?_
      refine st (X.pickF rfl rfl) rfl ?_
      refine gY (g := 25) rfl rfl rfl ?_
      refine sb rfl rfl (fun h33 => ?_) (fun h33 => ?_)
      · first | replace h33 := of_decide_eq_true h33 | replace h33 := of_decide_eq_false (notT h33) | replace h33 := notT h33 | skip
        refine gN (g := 33) rfl rfl rfl rfl ?_
        refine gN (g := 33) rfl rfl rfl rfl ?_
        refine gN (g := 33) rfl rfl rfl rfl ?_
        refine gY (g := 25) rfl rfl rfl ?_
        refine st (X.pickT rfl rfl) rfl ?_
        refine st (X.pickT rfl rfl) rfl ?_
        refine sm rfl rfl ?_
        refine gY (g := 39) rfl rfl rfl ?_
        refine sm rfl rfl ?_
        refine gY (g := 39) rfl rfl rfl ?_
        refine sc _ Tryd.func33 rfl (by kernel_rfl) rfl rfl ((List_nil _).mono ?_)
        rintro e_ w12 ⟨rfl, hb⟩
        refine cR ?_
        replace hbw := bthen hbw hb
        replace ho := ho.bel hb
        replace hB1 := hB1.bel hb
        replace hR8 := hR8.bel hb
        have hz_w12 := hb.size
        clear hb
        refine gY (g := 39) rfl rfl rfl ?_
        refine st (X.lenL rfl rfl Tryd.underlying23) rfl ?_
        refine gY (g := 39) rfl rfl rfl ?_
        refine st (X.eql rfl rfl) rfl ?_
        refine st (X.pickT rfl rfl) rfl ?_
        refine sbY rfl (rfl) rfl ?_
        refine gY (g := 45) rfl rfl rfl ?_
        refine sm rfl rfl ?_
        refine gY (g := 45) rfl rfl rfl ?_
        refine sc _ Tryd.func30 rfl (by kernel_rfl) rfl rfl ((Used_nil _).mono ?_)
        rintro e_ w13 ⟨rfl, hb⟩
        refine cR ?_
        replace hbw := bthen hbw hb
        replace ho := ho.bel hb
        replace hB1 := hB1.bel hb
        replace hR8 := hR8.bel hb
        have hz_w13 := hb.size
        clear hb
        refine gY (g := 45) rfl rfl rfl ?_
        refine st (X.eql rfl rfl) rfl ?_
        refine st (X.pickT rfl rfl) rfl ?_
        refine sbY rfl (rfl) rfl ?_
        refine gY (g := 50) rfl rfl rfl ?_
        refine sm rfl rfl ?_
        refine gY (g := 50) rfl rfl rfl ?_
        refine sc _ Tryd.func41 rfl (by kernel_rfl) rfl rfl ((Limit_nil _).mono ?_)
        rintro e_ w14 ⟨rfl, hb⟩
        refine cR ?_
        replace hbw := bthen hbw hb
        replace ho := ho.bel hb
        replace hB1 := hB1.bel hb
        replace hR8 := hR8.bel hb
        have hz_w14 := hb.size
        clear hb
        refine gY (g := 50) rfl rfl rfl ?_
        refine st (X.eql rfl rfl) rfl ?_
        refine st (X.pickT rfl rfl) rfl ?_
        refine sbY rfl (rfl) rfl ?_
        refine gY (g := 55) rfl rfl rfl ?_
        refine sm rfl rfl ?_
        refine gY (g := 55) rfl rfl rfl ?_
        refine sc _ Tryd.func40 rfl (by kernel_rfl) rfl rfl ((Refused_nil _).mono ?_)
        rintro e_ w15 ⟨rfl, hb⟩
        refine cR ?_
        replace hbw := bthen hbw hb
        replace ho := ho.bel hb
        replace hB1 := hB1.bel hb
        replace hR8 := hR8.bel hb
        have hz_w15 := hb.size
        clear hb
        refine gY (g := 55) rfl rfl rfl ?_
        refine st (X.eql rfl rfl) rfl ?_
        refine st (X.pickT rfl rfl) rfl ?_
        refine sbY rfl (rfl) rfl ?_
        refine gY (g := 60) rfl rfl rfl ?_
        refine sm rfl rfl ?_
        refine gY (g := 60) rfl rfl rfl ?_
        refine sc _ Tryd.func42 rfl (by kernel_rfl) rfl rfl ((Copy_nil _).mono ?_)
        rintro e_ w16 ⟨rfl, hb⟩
        refine cR ?_
        replace hbw := bthen hbw hb
        replace ho := ho.bel hb
        replace hB1 := hB1.bel hb
        replace hR8 := hR8.bel hb
        have hz_w16 := hb.size
        clear hb
        refine gY (g := 60) rfl rfl rfl ?_
        refine st (X.dEq rfl) rfl ?_
        refine st (X.pickT rfl rfl) rfl ?_
        refine sbY rfl (rfl) rfl ?_
        refine gY (g := 65) rfl rfl rfl ?_
        refine sc _ Tryd.func24 rfl (by kernel_rfl) rfl rfl ((awake_any _).mono ?_)
        rintro e_ w17 ⟨rfl, hb⟩
        refine cR ?_
        replace hbw := bthen hbw hb
        replace ho := ho.bel hb
        replace hB1 := hB1.bel hb
        replace hR8 := hR8.bel hb
        have hz_w17 := hb.size
        clear hb
        refine st (X.pickT rfl rfl) rfl ?_
        refine sa rfl rfl ?_
        refine Wn ?_
        refine tN ?_
        refine W_ret ?_
        exact (rT rfl rfl ⟨rfl, hbw⟩).1
      · first | replace h33 := of_decide_eq_false h33 | replace h33 := of_decide_eq_true (notF h33) | replace h33 := notF h33 | skip
        refine gY (g := 33) rfl rfl rfl ?_
        refine st (X.fa fa58_0 rfl) rfl ?_
        refine gY (g := 33) rfl rfl rfl ?_
        refine st (X.ldL rfl hB1 Tryd.underlying3 rfl rfl) rfl ?_
        refine gY (g := 33) rfl rfl rfl ?_
        refine st (X.eql rfl rfl) rfl ?_
        refine gY (g := 25) rfl rfl rfl ?_
        refine st (X.pickF rfl rfl) rfl ?_
        refine st (X.pickT rfl rfl) rfl ?_
        refine sbY rfl (decide_eq_true (by by_cases h9 : o.ask = 9; exact h9; exact absurd (if_neg (by omega)) h28)) rfl ?_
        refine gY (g := 39) rfl rfl rfl ?_
        refine sm rfl rfl ?_
        refine gY (g := 39) rfl rfl rfl ?_
        refine sc _ Tryd.func33 rfl (by kernel_rfl) rfl rfl ((List_nil _).mono ?_)
        rintro e_ w18 ⟨rfl, hb⟩
        refine cR ?_
        replace hbw := bthen hbw hb
        replace ho := ho.bel hb
        replace hB1 := hB1.bel hb
        replace hR8 := hR8.bel hb
        have hz_w18 := hb.size
        clear hb
        refine gY (g := 39) rfl rfl rfl ?_
        refine st (X.lenL rfl rfl Tryd.underlying23) rfl ?_
        refine gY (g := 39) rfl rfl rfl ?_
        refine st (X.eql rfl rfl) rfl ?_
        refine st (X.pickT rfl rfl) rfl ?_
        refine sbY rfl (rfl) rfl ?_
        refine gY (g := 45) rfl rfl rfl ?_
        refine sm rfl rfl ?_
        refine gY (g := 45) rfl rfl rfl ?_
        refine sc _ Tryd.func30 rfl (by kernel_rfl) rfl rfl ((Used_nil _).mono ?_)
        rintro e_ w19 ⟨rfl, hb⟩
        refine cR ?_
        replace hbw := bthen hbw hb
        replace ho := ho.bel hb
        replace hB1 := hB1.bel hb
        replace hR8 := hR8.bel hb
        have hz_w19 := hb.size
        clear hb
        refine gY (g := 45) rfl rfl rfl ?_
        refine st (X.eql rfl rfl) rfl ?_
        refine st (X.pickT rfl rfl) rfl ?_
        refine sbY rfl (rfl) rfl ?_
        refine gY (g := 50) rfl rfl rfl ?_
        refine sm rfl rfl ?_
        refine gY (g := 50) rfl rfl rfl ?_
        refine sc _ Tryd.func41 rfl (by kernel_rfl) rfl rfl ((Limit_nil _).mono ?_)
        rintro e_ w20 ⟨rfl, hb⟩
        refine cR ?_
        replace hbw := bthen hbw hb
        replace ho := ho.bel hb
        replace hB1 := hB1.bel hb
        replace hR8 := hR8.bel hb
        have hz_w20 := hb.size
        clear hb
        refine gY (g := 50) rfl rfl rfl ?_
        refine st (X.eql rfl rfl) rfl ?_
        refine st (X.pickT rfl rfl) rfl ?_
        refine sbY rfl (rfl) rfl ?_
        refine gY (g := 55) rfl rfl rfl ?_
        refine sm rfl rfl ?_
        refine gY (g := 55) rfl rfl rfl ?_
        refine sc _ Tryd.func40 rfl (by kernel_rfl) rfl rfl ((Refused_nil _).mono ?_)
        rintro e_ w21 ⟨rfl, hb⟩
        refine cR ?_
        replace hbw := bthen hbw hb
        replace ho := ho.bel hb
        replace hB1 := hB1.bel hb
        replace hR8 := hR8.bel hb
        have hz_w21 := hb.size
        clear hb
        refine gY (g := 55) rfl rfl rfl ?_
        refine st (X.eql rfl rfl) rfl ?_
        refine st (X.pickT rfl rfl) rfl ?_
        refine sbY rfl (rfl) rfl ?_
        refine gY (g := 60) rfl rfl rfl ?_
        refine sm rfl rfl ?_
        refine gY (g := 60) rfl rfl rfl ?_
        refine sc _ Tryd.func42 rfl (by kernel_rfl) rfl rfl ((Copy_nil _).mono ?_)
        rintro e_ w22 ⟨rfl, hb⟩
        refine cR ?_
        replace hbw := bthen hbw hb
        replace ho := ho.bel hb
        replace hB1 := hB1.bel hb
        replace hR8 := hR8.bel hb
        have hz_w22 := hb.size
        clear hb
        refine gY (g := 60) rfl rfl rfl ?_
        refine st (X.dEq rfl) rfl ?_
        refine st (X.pickT rfl rfl) rfl ?_
        refine sbY rfl (rfl) rfl ?_
        refine gY (g := 65) rfl rfl rfl ?_
        refine sc _ Tryd.func24 rfl (by kernel_rfl) rfl rfl ((awake_any _).mono ?_)
        rintro e_ w23 ⟨rfl, hb⟩
        refine cR ?_
        replace hbw := bthen hbw hb
        replace ho := ho.bel hb
        replace hB1 := hB1.bel hb
        replace hR8 := hR8.bel hb
        have hz_w23 := hb.size
        clear hb
        refine st (X.pickT rfl rfl) rfl ?_
        refine sa rfl rfl ?_
        refine Wn ?_
        refine tN ?_
        refine W_ret ?_
        exact (rT rfl rfl ⟨rfl, hbw⟩).1
end Go.Proofs.YtnijmegalgoipaaDoor
