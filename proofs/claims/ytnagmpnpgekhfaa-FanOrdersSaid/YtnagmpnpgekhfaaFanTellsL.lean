/- The laws FanTells, FanReads. -/
import Derived.Test.YtnagmpnpgekhfaaFanR
namespace Go.Proofs.Ytnagmpnpgekhfaa
open Go.RowKit
theorem make_all {l : List Ent} : (makeM l).1.all fitE = true := List.all_eq_true.2 fun _ h => make_fit h
set_option maxRecDepth 10000 in
theorem FanTells_walk (w : World) (v : Value) (l : List Ent) (h : EntsAt w v l) (h32 : S32 l) : Calls Try.prog 10 #[v] w fun e w' => e = .returned (.bool true) ∧ Below w.heap.size w w' := by
  obtain ⟨a, cp, rfl, hn, hcp⟩ := h.shape
  refine W_enter (args := [.slice a l.length cp]) 42 Try.func10 rfl rfl rfl ?_
  refine W_sub [(0, .slice a l.length cp)] ?_ ⟨rfl, trivial⟩
  have hbw := Below.refl w.heap.size w
  refine W_rs ?_
  refine sa rfl rfl ?_
  refine Wn ?_
  refine tN ?_
  refine W_seq ?_
  refine W_rs ?_
  refine sm rfl rfl ?_
  refine st (X.lenL rfl rfl Try.underlying69) rfl ?_
  refine st (X.gtr rfl rfl) rfl ?_
  refine Wn ?_
  refine tN ?_
  refine W_if rfl (fun h9 => ?_) (fun h9 => ?_)
  · first | replace h9 := of_decide_eq_true h9 | replace h9 := of_decide_eq_false (notT h9) | replace h9 := notT h9 | skip
    refine W_rs ?_
    refine sc _ Try.func44 rfl (by kernel_rfl) rfl rfl ((fawake_any _).mono ?_)
    rintro e_ w1 ⟨rfl, hb⟩
    refine cR ?_
    replace hbw := bthen hbw hb
    have hz_w1 := hb.size
    clear hb
    refine sa rfl rfl ?_
    refine Wn ?_
    refine tN ?_
    refine W_ret (tR ?_)
    exact (rT rfl rfl ⟨rfl, hbw⟩).1
  · first | replace h9 := of_decide_eq_false h9 | replace h9 := of_decide_eq_true (notF h9) | replace h9 := notF h9 | skip
    have hml := make_length l
    refine W_skip ?_
    refine tN ?_
    refine W_rs ?_
    refine sm rfl rfl ?_
    refine sc _ Try.func45 rfl (by kernel_rfl) rfl rfl ((Make_any _ l _ (h.bel hbw) h32 (by omega)).mono ?_)
    rintro e_ w2 ⟨vm, rfl, hE, hb⟩
    refine cR ?_
    replace hbw := bthen hbw hb
    have hz_w2 := hb.size
    clear hb
    obtain ⟨am, cm, rfl, _, _⟩ := hE.shape
    refine sm rfl rfl ?_
    refine st (X.ext rfl rfl) rfl ?_
    refine st (X.ext rfl rfl) rfl ?_
    refine salA inf71 rfl (fun g3 w3 hB3 hg3 hb hl3 => ?_)
    have hpend := hb
    replace hbw := bthen hbw hb
    have hz_w3 := hb.size
    clear hb
    refine ssBN rfl rfl hB3 siz71 rfl rfl (fun w4 hB_ hc_ => ?_)
    replace hB3 := hB_
    clear hB_
    replace hpend := bset hpend hc_ (by omega)
    replace hbw := bset hbw hc_ (by omega)
    have hz_w4 := hc_.size
    clear hc_
    refine sa rfl rfl ?_
    refine Wn ?_
    refine tN ?_
    refine W_rs ?_
    refine sm rfl rfl ?_
    refine sc _ Try.func47 rfl (by kernel_rfl) rfl rfl ((FPlain_any _ l _ (h.bel hbw) h32 (by omega)).mono ?_)
    rintro e_ w5 ⟨vp, rfl, hP, hO, hb⟩
    refine cR ?_
    replace hpend := bthen hpend hb
    replace hbw := bthen hbw hb
    replace hB3 := hB3.bel hb
    have hz_w5 := hb.size
    clear hb
    refine sc _ Try.func46 rfl (by kernel_rfl) rfl rfl ((RMake_any vp l _ hP.reads (by omega)).mono ?_)
    rintro e_ w6 ⟨vr, rfl, hRr, hb⟩
    refine cR ?_
    replace hpend := bthen hpend hb
    replace hbw := bthen hbw hb
    replace hB3 := hB3.bel hb
    have hz_w6 := hb.size
    clear hb
    replace hE := hE.bel hpend
    clear hpend
    refine sm rfl rfl ?_
    refine st (X.ext rfl rfl) rfl ?_
    refine st (X.ext rfl rfl) rfl ?_
    refine sa rfl rfl ?_
    refine sa rfl rfl ?_
    refine Wn ?_
    refine tN ?_
    refine W_seq ?_
    refine W_rs ?_
    refine sm rfl rfl ?_
    refine st (X.neq rfl rfl) rfl ?_
    refine Wn ?_
    refine tN ?_
    refine W_if rfl (fun h23 => ?_) (fun h23 => ?_)
    · first | replace h23 := of_decide_eq_true h23 | replace h23 := of_decide_eq_false (notT h23) | replace h23 := notT h23 | skip
      refine W_rs ?_
      refine sm rfl rfl ?_
      refine sm rfl rfl ?_
      refine st (X.eql rfl rfl) rfl ?_
      refine sbY rfl (by simp) rfl ?_
      refine gY (g := 27) rfl rfl rfl ?_
      refine sc _ Try.func44 rfl (by kernel_rfl) rfl rfl ((fawake_any _).mono ?_)
      rintro e_ w7 ⟨rfl, hb⟩
      refine cR ?_
      have hpend := hb
      replace hbw := bthen hbw hb
      replace hB3 := hB3.bel hb
      have hz_w7 := hb.size
      clear hb
      refine st (X.pickT rfl rfl) rfl ?_
      refine sa rfl rfl ?_
      refine Wn ?_
      refine tN ?_
      replace hE := hE.bel hpend
      replace hRr := hRr.bel hpend
      clear hpend
      refine W_ret (tR ?_)
      exact (rT rfl rfl ⟨rfl, hbw⟩).1
    · first | replace h23 := of_decide_eq_false h23 | replace h23 := of_decide_eq_true (notF h23) | replace h23 := notF h23 | skip
      refine W_skip ?_
      refine tN ?_
      refine W_rs ?_
      refine sm rfl rfl ?_
      refine st (X.eql rfl rfl) rfl ?_
      refine sbY rfl (decide_eq_true (Classical.not_not.1 h23)) rfl ?_
      refine gY (g := 32) rfl rfl rfl ?_
      refine st (X.ldBN rfl hB3 Try.underlying71 rfl siz71) rfl ?_
      refine gY (g := 32) rfl rfl rfl ?_
      refine sc _ Try.func48 rfl (by kernel_rfl) rfl rfl ((Encode_any _ (makeM l).1 _ hE (make_S32 h32) (by omega)).mono ?_)
      rintro e_ w8 ⟨rfl, hb⟩
      refine cR ?_
      have hpend := hb
      replace hbw := bthen hbw hb
      replace hB3 := hB3.bel hb
      have hz_w8 := hb.size
      clear hb
      refine gY (g := 32) rfl rfl rfl ?_
      refine sm rfl rfl ?_
      refine gY (g := 32) rfl rfl rfl ?_
      replace hE := hE.bel hpend
      replace hRr := hRr.bel hpend
      clear hpend
      refine sc _ Try.func49 rfl (by kernel_rfl) rfl rfl ((REncode_any vr (makeM l).1 _ hRr (make_S32 h32) make_all (by omega)).mono ?_)
      rintro e_ w9 ⟨rfl, hb⟩
      refine cR ?_
      have hpend := hb
      replace hbw := bthen hbw hb
      replace hB3 := hB3.bel hb
      have hz_w9 := hb.size
      clear hb
      refine gY (g := 32) rfl rfl rfl ?_
      refine st (X.eqS rfl rfl) rfl ?_
      refine st (X.pickT rfl rfl) rfl ?_
      refine sbY rfl (by simp) rfl ?_
      refine gY (g := 39) rfl rfl rfl ?_
      refine sc _ Try.func44 rfl (by kernel_rfl) rfl rfl ((fawake_any _).mono ?_)
      rintro e_ w10 ⟨rfl, hb⟩
      refine cR ?_
      replace hpend := bthen hpend hb
      replace hbw := bthen hbw hb
      replace hB3 := hB3.bel hb
      have hz_w10 := hb.size
      clear hb
      refine st (X.pickT rfl rfl) rfl ?_
      refine sa rfl rfl ?_
      refine Wn ?_
      refine tN ?_
      replace hE := hE.bel hpend
      replace hRr := hRr.bel hpend
      clear hpend
      refine W_ret ?_
      exact (rT rfl rfl ⟨rfl, hbw⟩).1
set_option maxRecDepth 10000 in
theorem FanReads_walk (w : World) (s : List UInt8) (hs : s.length ≤ 9223372036854775807) : Calls Try.prog 12 #[str s] w fun e w' => e = .returned (.bool true) ∧ Below w.heap.size w w' := by
  refine W_enter (args := [str s]) 33 Try.func12 rfl rfl rfl ?_
  refine W_sub [(0, str s)] ?_ ⟨rfl, trivial⟩
  have hbw := Below.refl w.heap.size w
  refine W_rs ?_
  refine sa rfl rfl ?_
  refine Wn ?_
  refine tN ?_
  refine W_seq ?_
  refine W_rs ?_
  refine sm rfl rfl ?_
  refine st (X.lenS rfl rfl Try.underlying9) rfl ?_
  refine st (X.gtr rfl rfl) rfl ?_
  refine Wn ?_
  refine tN ?_
  refine W_if rfl (fun h9 => ?_) (fun h9 => ?_)
  · first | replace h9 := of_decide_eq_true h9 | replace h9 := of_decide_eq_false (notT h9) | replace h9 := notT h9 | skip
    refine W_rs ?_
    refine sc _ Try.func44 rfl (by kernel_rfl) rfl rfl ((fawake_any _).mono ?_)
    rintro e_ w1 ⟨rfl, hb⟩
    refine cR ?_
    replace hbw := bthen hbw hb
    have hz_w1 := hb.size
    clear hb
    refine sa rfl rfl ?_
    refine Wn ?_
    refine tN ?_
    refine W_ret (tR ?_)
    exact (rT rfl rfl ⟨rfl, hbw⟩).1
  · first | replace h9 := of_decide_eq_false h9 | replace h9 := of_decide_eq_true (notF h9) | replace h9 := notF h9 | skip
    have hdl := dec_length s
    refine W_skip ?_
    refine tN ?_
    refine W_rs ?_
    refine sm rfl rfl ?_
    refine sc _ Try.func50 rfl (by kernel_rfl) rfl rfl ((Decode_any s _ (by omega)).mono ?_)
    rintro e_ w2 ⟨vm, rfl, hE, hb⟩
    refine cR ?_
    replace hbw := bthen hbw hb
    have hz_w2 := hb.size
    clear hb
    obtain ⟨am, cm, rfl, _, _⟩ := hE.shape
    refine sm rfl rfl ?_
    refine st (X.ext rfl rfl) rfl ?_
    refine st (X.ext rfl rfl) rfl ?_
    refine salA inf71 rfl (fun g3 w3 hB3 hg3 hb hl3 => ?_)
    have hpend := hb
    replace hbw := bthen hbw hb
    have hz_w3 := hb.size
    clear hb
    refine ssBN rfl rfl hB3 siz71 rfl rfl (fun w4 hB_ hc_ => ?_)
    replace hB3 := hB_
    clear hB_
    replace hpend := bset hpend hc_ (by omega)
    replace hbw := bset hbw hc_ (by omega)
    have hz_w4 := hc_.size
    clear hc_
    refine sa rfl rfl ?_
    refine Wn ?_
    refine tN ?_
    refine W_rs ?_
    refine sm rfl rfl ?_
    refine sc _ Try.func52 rfl (by kernel_rfl) rfl rfl ((RDecode_any s _ (by omega)).mono ?_)
    rintro e_ w5 ⟨vr, rfl, hRr, hb⟩
    refine cR ?_
    replace hpend := bthen hpend hb
    replace hbw := bthen hbw hb
    replace hB3 := hB3.bel hb
    have hz_w5 := hb.size
    clear hb
    replace hE := hE.bel hpend
    clear hpend
    refine sm rfl rfl ?_
    refine st (X.ext rfl rfl) rfl ?_
    refine st (X.ext rfl rfl) rfl ?_
    refine sa rfl rfl ?_
    refine sa rfl rfl ?_
    refine Wn ?_
    refine tN ?_
    refine W_rs ?_
    refine sm rfl rfl ?_
    refine sm rfl rfl ?_
    refine st (X.eql rfl rfl) rfl ?_
    refine sbY rfl (by simp) rfl ?_
    refine gY (g := 24) rfl rfl rfl ?_
    refine st (X.ldBN rfl hB3 Try.underlying71 rfl siz71) rfl ?_
    refine gY (g := 24) rfl rfl rfl ?_
    refine sc _ Try.func54 rfl (by kernel_rfl) rfl rfl ((IAll_any _ (decM s).1 _ hE (dec_S32 s) (by omega)).mono ?_)
    rintro e_ w6 ⟨va, rfl, hA, hO, hb⟩
    refine cR ?_
    have hpend := hb
    replace hbw := bthen hbw hb
    replace hB3 := hB3.bel hb
    have hz_w6 := hb.size
    clear hb
    refine gY (g := 24) rfl rfl rfl ?_
    refine sm rfl rfl ?_
    refine gY (g := 24) rfl rfl rfl ?_
    replace hE := hE.bel hpend
    replace hRr := hRr.bel hpend
    clear hpend
    refine sc _ Try.func53 rfl (by kernel_rfl) rfl rfl ((FSame_any va vr _ _ _ hA.reads (dec_S32 s) (by omega) hRr).mono ?_)
    rintro e_ w7 ⟨rfl, hb⟩
    refine cR ?_
    have hpend := hb
    replace hbw := bthen hbw hb
    replace hB3 := hB3.bel hb
    have hz_w7 := hb.size
    clear hb
    refine st (X.pickT rfl rfl) rfl ?_
    refine sbY rfl (by simp) rfl ?_
    refine gY (g := 30) rfl rfl rfl ?_
    refine sc _ Try.func44 rfl (by kernel_rfl) rfl rfl ((fawake_any _).mono ?_)
    rintro e_ w8 ⟨rfl, hb⟩
    refine cR ?_
    replace hpend := bthen hpend hb
    replace hbw := bthen hbw hb
    replace hB3 := hB3.bel hb
    have hz_w8 := hb.size
    clear hb
    refine st (X.pickT rfl rfl) rfl ?_
    refine sa rfl rfl ?_
    refine Wn ?_
    refine tN ?_
    replace hE := hE.bel hpend
    replace hRr := hRr.bel hpend
    clear hpend
    refine W_ret ?_
    exact (rT rfl rfl ⟨rfl, hbw⟩).1
end Go.Proofs.Ytnagmpnpgekhfaa
