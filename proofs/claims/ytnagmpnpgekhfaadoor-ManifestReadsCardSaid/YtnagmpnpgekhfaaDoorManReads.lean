/- armariumlaw19.ManifestReads. -/
import Derived.Test.YtnagmpnpgekhfaaDoorRefDecode
import Derived.Test.YtnagmpnpgekhfaaDoorRefAlike
import Derived.Test.YtnagmpnpgekhfaaDoorManAwake
import Derived.Test.YtnagmpnpgekhfaaDoorManBackPlain
namespace Go.Proofs.YtnagmpnpgekhfaaDoor
open Go.RowKit
def manOf : Except Int Man → Man
  | .ok m => m
  | .error _ => ⟨0, 0, [], []⟩
def errOf : Except Int Man → Int
  | .ok _ => 0
  | .error k => k
theorem reads_nil (w : World) (k : Nat) : Reads w k (.slice none 0 0) 0 [] := (Row.nil w 0 k).reads
theorem alike_same (m : Man) : alike m m = true := by unfold alike; simp
theorem Decode_both (s : List UInt8) (w : World) (hT : UT w) (hs : s.length < 1000000) : Calls Tryd.prog 7 #[str s] w fun e w' => ∃ vc vs, e = .returned (.tuple #[manV (manOf (decodeM s)) vc vs, .int .i64 (errOf (decodeM s))]) ∧ (vc.oneCell' = true ∧ vs.oneCell' = true) ∧ ColsAt w' vc (manOf (decodeM s)).cols ∧ StrsAt w' vs (manOf (decodeM s)).strs ∧ Below w.heap.size w w' := by
  refine (Decode_any s w hT hs).mono ?_
  rintro e w' ⟨hb, hp⟩
  cases hd : decodeM s with
  | ok m =>
    rw [hd] at hp
    obtain ⟨vc, vs, he, hM⟩ := hp
    exact ⟨vc, vs, he, hM.one, hM.cols, hM.strs, hb⟩
  | error k =>
    rw [hd] at hp
    refine ⟨.slice none 0 0, .slice none 0 0, hp, ⟨rfl, rfl⟩, ⟨reads_nil _ _, fun c hc => by cases hc⟩, ⟨[], reads_nil _ _, fun i l hl => by simp [manOf] at hl⟩, hb⟩
theorem RefDecode_both (s : List UInt8) (w : World) (hT : UT w) (hs : s.length < 1000000) : Calls Tryd.prog 8 #[str s] w fun e w' => ∃ vc vs, e = .returned (.tuple #[.agg #[.int .i64 (manOf (decodeM s)).id, .int .i64 (manOf (decodeM s)).rows, vc, vs], .int .i64 (errOf (decodeM s))]) ∧ (vc.oneCell' = true ∧ vs.oneCell' = true) ∧ ColsAt w' vc (manOf (decodeM s)).cols ∧ RStrsAt w' vs (manOf (decodeM s)).strs ∧ Below w.heap.size w w' := by
  refine (RefDecode_any s w hT hs).mono ?_
  rintro e w' ⟨hb, hp⟩
  cases hd : decodeM s with
  | ok m =>
    rw [hd] at hp
    obtain ⟨vc, vs, he, hC, hS⟩ := hp
    have h1 : vc.oneCell' = true := by obtain ⟨_, _, rfl, _, _⟩ := hC.1.shape; rfl
    have h2 : vs.oneCell' = true := by obtain ⟨_, hR, _⟩ := hS; obtain ⟨_, _, rfl, _, _⟩ := hR.shape; rfl
    exact ⟨vc, vs, he, ⟨h1, h2⟩, hC, hS, hb⟩
  | error k =>
    rw [hd] at hp
    refine ⟨.slice none 0 0, .slice none 0 0, hp, ⟨rfl, rfl⟩, ⟨reads_nil _ _, fun c hc => by cases hc⟩, ⟨[], reads_nil _ _, fun i l hl => by simp [manOf] at hl⟩, hb⟩
theorem man_few (s : List UInt8) : (manOf (decodeM s)).strs.length ≤ 1000000 ∧ ∀ l ∈ (manOf (decodeM s)).strs, l.length ≤ 1000000 := by
  cases hd : decodeM s with
  | error k => exact ⟨by simp [manOf], fun l hl => by cases hl⟩
  | ok m =>
    have h := (forth hd).1
    show m.strs.length ≤ 1000000 ∧ ∀ l ∈ m.strs, l.length ≤ 1000000
    unfold manErr at h
    split at h
    · cases h
    split at h
    · cases h
    split at h
    · cases h
    split at h
    · cases h
    rename_i h1 h2 h3 h4
    have h5 : colsOk m.cols = true := by simpa using h3
    unfold colsOk at h5
    rw [Bool.and_eq_true, decide_eq_true_eq] at h5
    refine ⟨by omega, fun l hl => ?_⟩
    have := strsErr_ok h l hl
    unfold strErr at this
    split at this
    · cases this
    · omega
set_option maxRecDepth 10000 in
theorem ManifestReads_walk (w : World) (s : List UInt8) (hs : s.length ≤ 9223372036854775807) (hT : UT w) :
    Calls Tryd.prog 3 #[str s] w fun e w' => e = .returned (.bool true) ∧ Below w.heap.size w w' := by
  obtain ⟨hN1, hN2⟩ := man_few s
  obtain ⟨m, hm⟩ : ∃ m, manOf (decodeM s) = m := ⟨_, rfl⟩
  have hD := fun w hT hl => Decode_both s w hT hl
  have hR := fun w hT hl => RefDecode_both s w hT hl
  rw [hm] at hN1 hN2 hD hR
  refine W_enter (args := [str s]) 40 Tryd.func3 rfl rfl rfl ?_
  refine W_sub [(0, str s)] ?_ ⟨rfl, trivial⟩
  have hbw := Below.refl w.heap.size w
  refine W_rs ?_
  refine sa rfl rfl ?_
  refine Wn ?_
  refine tN ?_
  refine W_seq ?_
  refine W_rs ?_
  refine sm rfl rfl ?_
  refine st (X.lenS rfl rfl Tryd.underlying9) rfl ?_
  refine st (X.gtr rfl rfl) rfl ?_
  refine Wn ?_
  refine tN ?_
  refine W_if rfl (fun h10 => ?_) (fun h10 => ?_)
  · first | replace h10 := of_decide_eq_true h10 | replace h10 := of_decide_eq_false (notT h10) | replace h10 := notT h10 | skip
    refine W_rs ?_
    refine sc _ Tryd.func6 rfl (by kernel_rfl) rfl rfl ((awake_any _ (hT.bel hbw)).mono ?_)
    rintro e_ w1 ⟨rfl, hb⟩
    refine cR ?_
    replace hbw := bthen hbw hb
    have hz_w1 := hb.size
    clear hb
    refine sa rfl rfl ?_
    refine Wn ?_
    refine tN ?_
    refine W_ret (tR ?_)
    exact (rT rfl rfl ⟨by first | rfl | rw [alike_same], hbw⟩).1
  · first | replace h10 := of_decide_eq_false h10 | replace h10 := of_decide_eq_true (notF h10) | replace h10 := notF h10 | skip
    refine W_skip ?_
    refine tN ?_
    refine W_rs ?_
    refine sm rfl rfl ?_
    refine sc _ Tryd.func7 rfl (by kernel_rfl) rfl rfl ((hD _ (hT.bel hbw) (by omega)).mono ?_)
    rintro e_ w2 ⟨vc, vs, rfl, ⟨ho1, ho2⟩, hC1, hS1, hb⟩
    refine cR ?_
    replace hbw := bthen hbw hb
    have hz_w2 := hb.size
    clear hb
    refine sm rfl rfl ?_
    refine st (X.ext rfl rfl) rfl ?_
    refine st (X.ext rfl rfl) rfl ?_
    refine salA inf26 rfl (fun g3 w3 hB3 hg3 hb hl3 => ?_)
    have hpend := hb
    replace hbw := bthen hbw hb
    have hz_w3 := hb.size
    clear hb
    refine ssBN rfl rfl hB3 siz26 rfl (man_one ho1 ho2) (fun w4 hB_ hc_ => ?_)
    replace hB3 := hB_
    clear hB_
    replace hpend := bset hpend hc_ (by omega)
    replace hbw := bset hbw hc_ (by omega)
    have hz_w4 := hc_.size
    clear hc_
    refine sa rfl rfl ?_
    refine Wn ?_
    refine tN ?_
    refine W_rs ?_
    refine sm rfl rfl ?_
    refine sc _ Tryd.func8 rfl (by kernel_rfl) rfl rfl ((hR _ (hT.bel hbw) (by omega)).mono ?_)
    rintro e_ w5 ⟨uc, ur, rfl, ⟨ho3, ho4⟩, hC2, hS2, hb⟩
    refine cR ?_
    replace hpend := bthen hpend hb
    replace hbw := bthen hbw hb
    replace hB3 := hB3.bel hb
    have hz_w5 := hb.size
    clear hb
    replace hC1 := hC1.bel hpend
    replace hS1 := hS1.bel hpend
    clear hpend
    refine sm rfl rfl ?_
    refine st (X.ext rfl rfl) rfl ?_
    refine st (X.ext rfl rfl) rfl ?_
    refine salA inf32 rfl (fun g5 w6 hB5 hg5 hb hl5 => ?_)
    have hpend := hb
    replace hbw := bthen hbw hb
    replace hB3 := hB3.bel hb
    have hz_w6 := hb.size
    clear hb
    refine ssBN rfl rfl hB5 siz32 rfl (man_one ho3 ho4) (fun w7 hB_ hc_ => ?_)
    replace hB5 := hB_
    clear hB_
    replace hpend := bset hpend hc_ (by omega)
    replace hB3 := hB3.chg hc_ (by first | (show ¬ _ = _; omega) | (intro k_ hk_; simp [Value.ownBlock] at hk_; subst hk_; show ¬ _ = _; omega))
    replace hbw := bset hbw hc_ (by omega)
    have hz_w7 := hc_.size
    clear hc_
    refine sa rfl rfl ?_
    refine Wn ?_
    refine tN ?_
    refine W_seq ?_
    refine W_rs ?_
    refine sm rfl rfl ?_
    refine sm rfl rfl ?_
    refine st (X.neq rfl rfl) rfl ?_
    refine Wn ?_
    refine tN ?_
    refine W_no rfl (by simp) ?_
    refine W_skip ?_
    refine tN ?_
    refine W_rs ?_
    refine st (X.ldBN rfl hB3 Tryd.underlying26 rfl siz26) rfl ?_
    replace hC1 := hC1.bel hpend
    replace hS1 := hS1.bel hpend
    replace hC2 := hC2.bel hpend
    replace hS2 := hS2.bel hpend
    clear hpend
    refine sc _ Tryd.func9 rfl (by kernel_rfl) rfl rfl ((Plain_any m vc vs _ hC1 hS1 hN1 hN2).mono ?_)
    rintro e_ w8 ⟨vr, rfl, hRR, hb⟩
    refine cR ?_
    have hpend := hb
    replace hbw := bthen hbw hb
    replace hB3 := hB3.bel hb
    replace hB5 := hB5.bel hb
    have hz_w8 := hb.size
    clear hb
    have ho5 : vr.oneCell' = true := by obtain ⟨_, hR, _⟩ := hRR; obtain ⟨_, _, rfl, _, _⟩ := hR.shape; rfl
    replace hC1 := hC1.bel hpend
    replace hS1 := hS1.bel hpend
    replace hC2 := hC2.bel hpend
    replace hS2 := hS2.bel hpend
    clear hpend
    refine salA inf32 rfl (fun g7 w9 hB7 hg7 hb hl7 => ?_)
    have hpend := hb
    replace hbw := bthen hbw hb
    replace hB3 := hB3.bel hb
    replace hB5 := hB5.bel hb
    have hz_w9 := hb.size
    clear hb
    refine ssBN rfl rfl hB7 siz32 rfl (man_one ho1 ho5) (fun w10 hB_ hc_ => ?_)
    replace hB7 := hB_
    clear hB_
    replace hpend := bset hpend hc_ (by omega)
    replace hB3 := hB3.chg hc_ (by first | (show ¬ _ = _; omega) | (intro k_ hk_; simp [Value.ownBlock] at hk_; subst hk_; show ¬ _ = _; omega))
    replace hB5 := hB5.chg hc_ (by first | (show ¬ _ = _; omega) | (intro k_ hk_; simp [Value.ownBlock] at hk_; subst hk_; show ¬ _ = _; omega))
    replace hbw := bset hbw hc_ (by omega)
    have hz_w10 := hc_.size
    clear hc_
    refine Wn ?_
    refine tN ?_
    refine W_rs ?_
    refine st (X.fa fa32_0 rfl) rfl ?_
    refine st (X.ldL rfl hB7 Tryd.underlying3 rfl rfl) rfl ?_
    refine st (X.fa fa32_0 rfl) rfl ?_
    refine st (X.ldL rfl hB5 Tryd.underlying3 rfl rfl) rfl ?_
    refine st (X.eql rfl rfl) rfl ?_
    refine sbY rfl (by simp) rfl ?_
    refine gY (g := 32) rfl rfl rfl ?_
    refine st (X.ldBN rfl hB7 Tryd.underlying32 rfl siz32) rfl ?_
    refine gY (g := 32) rfl rfl rfl ?_
    refine st (X.ldBN rfl hB5 Tryd.underlying32 rfl siz32) rfl ?_
    refine gY (g := 32) rfl rfl rfl ?_
    replace hC1 := hC1.bel hpend
    replace hS1 := hS1.bel hpend
    replace hC2 := hC2.bel hpend
    replace hS2 := hS2.bel hpend
    replace hRR := hRR.bel hpend
    clear hpend
    refine sc _ Tryd.func10 rfl (by kernel_rfl) rfl rfl ((RefAlike_any m m vc vr uc ur _ hC1 hRR hC2 hS2).mono ?_)
    rintro e_ w11 ⟨rfl, hb⟩
    refine cR ?_
    have hpend := hb
    replace hbw := bthen hbw hb
    replace hB3 := hB3.bel hb
    replace hB5 := hB5.bel hb
    replace hB7 := hB7.bel hb
    have hz_w11 := hb.size
    clear hb
    skip
    refine st (X.pickT rfl rfl) rfl ?_
    refine sbY rfl (alike_same m) rfl ?_
    refine gY (g := 37) rfl rfl rfl ?_
    refine sc _ Tryd.func6 rfl (by kernel_rfl) rfl rfl ((awake_any _ (hT.bel hbw)).mono ?_)
    rintro e_ w12 ⟨rfl, hb⟩
    refine cR ?_
    replace hpend := bthen hpend hb
    replace hbw := bthen hbw hb
    replace hB3 := hB3.bel hb
    replace hB5 := hB5.bel hb
    replace hB7 := hB7.bel hb
    have hz_w12 := hb.size
    clear hb
    refine st (X.pickT rfl rfl) rfl ?_
    refine sa rfl rfl ?_
    refine Wn ?_
    refine tN ?_
    replace hC1 := hC1.bel hpend
    replace hS1 := hS1.bel hpend
    replace hC2 := hC2.bel hpend
    replace hS2 := hS2.bel hpend
    replace hRR := hRR.bel hpend
    clear hpend
    refine W_ret ?_
    exact (rT rfl rfl ⟨by first | rfl | rw [alike_same], hbw⟩).1
end Go.Proofs.YtnagmpnpgekhfaaDoor
