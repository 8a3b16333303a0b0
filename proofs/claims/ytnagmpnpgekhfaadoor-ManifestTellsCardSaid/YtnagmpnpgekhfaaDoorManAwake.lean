/- armariumlaw19: awake. -/
import Derived.Test.YtnagmpnpgekhfaaDoorManFew
namespace Go.Proofs.YtnagmpnpgekhfaaDoor
open Go.RowKit
def awakeMan : Man := ⟨1, 0, [⟨[97], 2, false⟩], [[⟨List.replicate 32 0, 5⟩]]⟩
theorem zeros_dec : decodeM (List.replicate 17 0) = .error 14 := by
  unfold decodeM
  rw [if_neg (by decide), if_pos (by decide)]
theorem awake_err : manErr colsOk awakeMan = 0 := by decide +kernel
theorem awake_chk : manErr colsOk ⟨1, 0, [], []⟩ = 30 := by decide +kernel
theorem awake_len : (encode awakeMan).length = 60 := by
  unfold encode; rw [List.length_append, four_length]; decide +kernel
theorem bacol (w : World) : (Instr.build 60 #[(0, str [97]), (1, .int .i64 2)]).run Tryd.prog w = .ok (.agg #[str [97], .int .i64 2, .bool false]) w := by kernel_rfl
theorem bachk (w : World) : (Instr.build 55 #[(1, .int .i64 5)]).run Tryd.prog w = .ok (.agg (Chk.cells ⟨List.replicate 32 0, 5⟩).toArray) w := by kernel_rfl
theorem baman (a b : Nat) (w : World) : (Instr.build 26 #[(0, .int .i64 1), (2, .slice (some ⟨a, 0, none⟩) 1 1), (3, .slice (some ⟨b, 0, none⟩) 1 1)]).run Tryd.prog w = .ok (.agg #[.int .i64 1, .int .i64 0, .slice (some ⟨a, 0, none⟩) 1 1, .slice (some ⟨b, 0, none⟩) 1 1]) w := by kernel_rfl
theorem baman1 (w : World) : (Instr.build 26 #[(0, .int .i64 1)]).run Tryd.prog w = .ok (.agg #[.int .i64 1, .int .i64 0, .slice none 0 0, .slice none 0 0]) w := by kernel_rfl
theorem reads0 (w : World) (k : Nat) : Reads w k (.slice none 0 0) 0 [] := ⟨by simp, none, 0, rfl, Nat.le_refl _, by simp [maxLen], fun h => absurd h (by omega)⟩
theorem col0 {w : World} : ColsAt w (.slice none 0 0) [] := ⟨reads0 w 3, by simp⟩
theorem str0 {w : World} : StrsAt w (.slice none 0 0) [] := ⟨[], reads0 w 1, by simp⟩
theorem awake_any (w : World) (hT : UT w) : Calls Tryd.prog 6 #[] w fun e w' => e = .returned (.bool true) ∧ Below w.heap.size w w' := by
  refine W_enter (args := []) 39 Tryd.func6 rfl rfl rfl ?_
  have hbw := Below.refl w.heap.size w
  refine W_rs ?_
  refine sa rfl rfl ?_
  refine Wn ?_
  refine tN ?_
  refine W_rs ?_
  refine smk (q := 17) rfl rfl rfl rfl Tryd.underlying58 inf5 (by decide) (by decide) rfl (fun g7 w1 hR7 hg7 hb => ?_)
  replace hbw := bthen hbw hb
  have hz_w1 := hb.size
  clear hb
  have hl7 := hR7.blt (by decide)
  refine st (X.strOf (s := List.replicate 17 0) rfl Tryd.underlying58 Tryd.underlying5 Tryd.underlying9 (by have := hR7.reads; rwa [show (madeCells (Value.int IntKind.u8 0).cells (17 * 1)).toList = (List.replicate 17 (0 : UInt8)).map bv by kernel_rfl] at this)) rfl ?_
  refine sc _ Tryd.func7 rfl (by kernel_rfl) rfl rfl ((Decode_any (List.replicate 17 0) _ (hT.bel hbw) (by decide)).mono ?_)
  rintro e_ w2 ⟨hb, hp⟩
  rw [zeros_dec] at hp
  obtain rfl := hp
  refine cR ?_
  replace hbw := bthen hbw hb
  have hz_d := hb.size
  clear hb
  refine sm rfl rfl ?_
  refine st (X.ext rfl rfl) rfl ?_
  refine st (X.ext rfl rfl) rfl ?_
  refine salA inf26 rfl (fun g1 w3 hB1 hg1 hb hl1 => ?_)
  replace hbw := bthen hbw hb
  have hz_w3 := hb.size
  clear hb
  refine ssBN rfl rfl hB1 siz26 rfl rfl (fun w4 hB_ hc_ => ?_)
  replace hB1 := hB_
  clear hB_
  replace hbw := bset hbw hc_ (by omega)
  have hz_w4 := hc_.size
  clear hc_
  refine sa rfl rfl ?_
  refine Wn ?_
  refine tN ?_
  refine W_rs ?_
  refine st (X.bld rfl (bacol _)) rfl ?_
  refine sbs1 rfl Tryd.underlying23 inf60 rfl rfl (by decide) (by decide) rfl (fun g13 w5 hR13 hg13 hb => ?_)
  replace hbw := bthen hbw hb
  replace hB1 := hB1.bel hb
  have hz_w5 := hb.size
  clear hb
  have hl13 := hR13.blt (by decide)
  refine st (X.bld rfl (bachk _)) rfl ?_
  refine sbs1 rfl Tryd.underlying51 inf55 rfl rfl (by decide) (by decide) rfl (fun g15 w6 hR15 hg15 hb => ?_)
  replace hbw := bthen hbw hb
  replace hB1 := hB1.bel hb
  replace hR13 := hR13.bel hb
  have hz_w6 := hb.size
  clear hb
  have hl15 := hR15.blt (by decide)
  refine sbs1 rfl Tryd.underlying24 inf51 rfl rfl (by decide) (by decide) rfl (fun g16 w7 hR16 hg16 hb => ?_)
  replace hbw := bthen hbw hb
  replace hB1 := hB1.bel hb
  replace hR13 := hR13.bel hb
  replace hR15 := hR15.bel hb
  have hz_w7 := hb.size
  clear hb
  have hl16 := hR16.blt (by decide)
  refine st (X.bld rfl (baman _ _ _)) rfl ?_
  refine salA inf26 rfl (fun g3 w8 hB3 hg3 hb hl3 => ?_)
  replace hbw := bthen hbw hb
  replace hB1 := hB1.bel hb
  replace hR13 := hR13.bel hb
  replace hR15 := hR15.bel hb
  replace hR16 := hR16.bel hb
  have hz_w8 := hb.size
  clear hb
  refine ssBN rfl rfl hB3 siz26 rfl rfl (fun w9 hB_ hc_ => ?_)
  replace hB3 := hB_
  clear hB_
  replace hB1 := hB1.chg hc_ (by first | (show ¬ _ = _; omega) | (intro k_ hk_; simp [Value.ownBlock] at hk_; subst hk_; show ¬ _ = _; omega))
  replace hR13 := hR13.chg hc_ (by first | (show ¬ _ = _; omega) | (intro k_ hk_; simp [Value.ownBlock] at hk_; subst hk_; show ¬ _ = _; omega))
  replace hR15 := hR15.chg hc_ (by first | (show ¬ _ = _; omega) | (intro k_ hk_; simp [Value.ownBlock] at hk_; subst hk_; show ¬ _ = _; omega))
  replace hR16 := hR16.chg hc_ (by first | (show ¬ _ = _; omega) | (intro k_ hk_; simp [Value.ownBlock] at hk_; subst hk_; show ¬ _ = _; omega))
  replace hbw := bset hbw hc_ (by omega)
  have hz_w9 := hc_.size
  clear hc_
  refine Wn ?_
  refine tN ?_
  refine W_rs ?_
  refine st (X.ldBN rfl hB3 Tryd.underlying26 rfl siz26) rfl ?_
  have hMc : ColsAt w9 _ awakeMan.cols := ⟨hR13.reads, by decide⟩
  have hMs : StrsAt w9 _ awakeMan.strs := ⟨_, hR16.reads, fun i l hl => by
    match i, hl with
    | 0, hl => simp [awakeMan] at hl; subst hl; exact ⟨_, rfl, hR15.reads, by simp⟩
    | i + 1, hl => simp [awakeMan] at hl⟩
  refine sc _ Tryd.func12 rfl (by kernel_rfl) rfl rfl ((encode_ok awakeMan _ _ _ hMc hMs (hT.bel hbw) awake_err).mono ?_)
  rintro e_ w10 ⟨rfl, hb⟩
  refine cR ?_
  replace hbw := bthen hbw hb
  replace hB1 := hB1.bel hb
  replace hR13 := hR13.bel hb
  replace hR15 := hR15.bel hb
  replace hR16 := hR16.bel hb
  replace hB3 := hB3.bel hb
  have hz_w10 := hb.size
  clear hb
  refine sm rfl rfl ?_
  refine st (X.ext rfl rfl) rfl ?_
  refine st (X.ext rfl rfl) rfl ?_
  refine sa rfl rfl ?_
  refine sa rfl rfl ?_
  refine Wn ?_
  refine tN ?_
  refine W_rs ?_
  refine sm rfl rfl ?_
  refine st (X.eql rfl rfl) rfl ?_
  refine sbY rfl (rfl) rfl ?_
  refine gY (g := 25) rfl rfl rfl ?_
  refine st (X.bld rfl (baman1 _)) rfl ?_
  refine gY (g := 25) rfl rfl rfl ?_
  refine sc _ Tryd.func16 rfl (by kernel_rfl) rfl rfl ((Check_any ⟨1, 0, [], []⟩ _ _ _ col0 str0 (hT.bel hbw)).mono ?_)
  rintro e_ w11 ⟨rfl, hb⟩
  refine cR ?_
  replace hbw := bthen hbw hb
  replace hB1 := hB1.bel hb
  replace hR13 := hR13.bel hb
  replace hR15 := hR15.bel hb
  replace hR16 := hR16.bel hb
  replace hB3 := hB3.bel hb
  have hz_w11 := hb.size
  clear hb
  rw [awake_chk]
  refine gY (g := 25) rfl rfl rfl ?_
  refine st (X.eql rfl rfl) rfl ?_
  refine st (X.pickT rfl rfl) rfl ?_
  refine sbY rfl (rfl) rfl ?_
  refine gY (g := 30) rfl rfl rfl ?_
  refine sm rfl rfl ?_
  refine gY (g := 30) rfl rfl rfl ?_
  refine st (X.eql rfl rfl) rfl ?_
  refine st (X.pickT rfl rfl) rfl ?_
  refine sbY rfl (rfl) rfl ?_
  refine gY (g := 34) rfl rfl rfl ?_
  refine sm rfl rfl ?_
  refine gY (g := 34) rfl rfl rfl ?_
  refine st (X.lenS rfl rfl Tryd.underlying9) rfl ?_
  refine gY (g := 34) rfl rfl rfl ?_
  refine st (X.eql rfl rfl) rfl ?_
  refine st (X.pickT rfl rfl) rfl ?_
  refine sa rfl rfl ?_
  refine Wn ?_
  refine tN ?_
  refine W_ret ?_
  exact (rT rfl rfl ⟨by rw [awake_len]; rfl, hbw⟩).1
end Go.Proofs.YtnagmpnpgekhfaaDoor
