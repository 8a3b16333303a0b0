/- armariumlaw19.ManifestSame. -/
import Derived.Test.YtcdlileichdeoaaDoorManTurned
import Derived.Test.YtcdlileichdeoaaDoorRefAlike
namespace Go.Proofs.YtcdlileichdeoaaDoor
open Go.RowKit
theorem few_ok {m : Man} (h : few m = true) : m.strs.length ≤ 1000000 ∧ ∀ l ∈ m.strs, l.length ≤ 1000000 := by
  have h' : m.cols.length ≤ 40 ∧ m.strs.length ≤ 40 ∧ (∀ c ∈ m.cols, c.name.length ≤ 100) ∧ ∀ l ∈ m.strs, l.length ≤ 100 := of_decide_eq_true h
  exact ⟨by omega, fun l hl => by have := h'.2.2.2 l hl; omega⟩
theorem alike_refl' (m : Man) : alike m m = true := by unfold alike; simp
set_option maxRecDepth 10000 in
theorem ManifestSame_walk (w : World) (m : Man) (vc vs : Value) (hc : ColsAt w vc m.cols) (hs : StrsAt w vs m.strs) (n : Man) (uc us : Value) (kc : ColsAt w uc n.cols) (ks : StrsAt w us n.strs) (hT : UT w) :
    Calls Tryd.prog 5 #[manV m vc vs, manV n uc us] w fun e w' => e = .returned (.bool true) ∧ Below w.heap.size w w' := by
  have ho1 : vc.oneCell' = true := by obtain ⟨_, _, rfl, _, _⟩ := hc.1.shape; rfl
  have ho2 : vs.oneCell' = true := by obtain ⟨_, hR, _⟩ := hs; obtain ⟨_, _, rfl, _, _⟩ := hR.shape; rfl
  obtain ⟨z, hz⟩ : ∃ z, alike m n = z := ⟨_, rfl⟩
  refine W_enter (args := [.agg #[.int .i64 m.id, .int .i64 m.rows, vc, vs], .agg #[.int .i64 n.id, .int .i64 n.rows, uc, us]]) 47 Tryd.func5 rfl rfl rfl ?_
  refine W_sub [(0, .agg #[.int .i64 m.id, .int .i64 m.rows, vc, vs]), (1, .agg #[.int .i64 n.id, .int .i64 n.rows, uc, us])] ?_ ⟨rfl, rfl, trivial⟩
  have hbw := Below.refl w.heap.size w
  refine W_rs ?_
  refine sboxA rfl rfl (fun g2 w1 hB2 hg2 hb hl2 => ?_)
  replace hbw := bthen hbw hb
  have hz_w1 := hb.size
  clear hb
  refine sboxA rfl rfl (fun g3 w2 hB3 hg3 hb hl3 => ?_)
  replace hbw := bthen hbw hb
  replace hB2 := hB2.bel hb
  have hz_w2 := hb.size
  clear hb
  refine sa rfl rfl ?_
  refine Wn ?_
  refine tN ?_
  refine W_seq ?_
  refine W_rs ?_
  refine st (X.ldBN rfl hB2 Tryd.underlying26 rfl siz26) rfl ?_
  refine sc _ Tryd.func14 rfl (by kernel_rfl) rfl rfl ((Few_any m _ _ _ (hc.bel hbw) (hs.bel hbw)).mono ?_)
  rintro e_ w3 ⟨rfl, hb⟩
  refine cR ?_
  replace hbw := bthen hbw hb
  replace hB2 := hB2.bel hb
  replace hB3 := hB3.bel hb
  have hz_w3 := hb.size
  clear hb
  refine st (X.not rfl) rfl ?_
  refine sb rfl rfl (fun h9 => ?_) (fun h9 => ?_)
  · first | replace h9 := of_decide_eq_true h9 | replace h9 := of_decide_eq_false (notT h9) | replace h9 := notT h9 | skip
    refine gN (g := 9) rfl rfl rfl rfl ?_
    refine gN (g := 9) rfl rfl rfl rfl ?_
    refine gN (g := 9) rfl rfl rfl rfl ?_
    refine st (X.pickT rfl rfl) rfl ?_
    refine Wn ?_
    refine tN ?_
    refine W_yes rfl (rfl) ?_
    refine W_rs ?_
    refine sc _ Tryd.func9 rfl (by kernel_rfl) rfl rfl ((awake_any _ (hT.bel hbw)).mono ?_)
    rintro e_ w4 ⟨rfl, hb⟩
    refine cR ?_
    replace hbw := bthen hbw hb
    replace hB2 := hB2.bel hb
    replace hB3 := hB3.bel hb
    have hz_w4 := hb.size
    clear hb
    refine sa rfl rfl ?_
    refine Wn ?_
    refine tN ?_
    refine W_ret (tR ?_)
    exact (rT rfl rfl ⟨rfl, hbw⟩).1
  · first | replace h9 := of_decide_eq_false h9 | replace h9 := of_decide_eq_true (notF h9) | replace h9 := notF h9 | skip
    refine gY (g := 9) rfl rfl rfl ?_
    refine st (X.ldBN rfl hB3 Tryd.underlying26 rfl siz26) rfl ?_
    refine gY (g := 9) rfl rfl rfl ?_
    refine sc _ Tryd.func14 rfl (by kernel_rfl) rfl rfl ((Few_any n _ _ _ (kc.bel hbw) (ks.bel hbw)).mono ?_)
    rintro e_ w5 ⟨rfl, hb⟩
    refine cR ?_
    replace hbw := bthen hbw hb
    replace hB2 := hB2.bel hb
    replace hB3 := hB3.bel hb
    have hz_w5 := hb.size
    clear hb
    refine gY (g := 9) rfl rfl rfl ?_
    refine st (X.not rfl) rfl ?_
    refine st (X.pickF rfl rfl) rfl ?_
    refine Wn ?_
    refine tN ?_
    refine W_if rfl (fun h13 => ?_) (fun h13 => ?_)
    · first | replace h13 := of_decide_eq_true h13 | replace h13 := of_decide_eq_false (notT h13) | replace h13 := notT h13 | skip
      refine W_rs ?_
      refine sc _ Tryd.func9 rfl (by kernel_rfl) rfl rfl ((awake_any _ (hT.bel hbw)).mono ?_)
      rintro e_ w6 ⟨rfl, hb⟩
      refine cR ?_
      replace hbw := bthen hbw hb
      replace hB2 := hB2.bel hb
      replace hB3 := hB3.bel hb
      have hz_w6 := hb.size
      clear hb
      refine sa rfl rfl ?_
      refine Wn ?_
      refine tN ?_
      refine W_ret (tR ?_)
      exact (rT rfl rfl ⟨rfl, hbw⟩).1
    · first | replace h13 := of_decide_eq_false h13 | replace h13 := of_decide_eq_true (notF h13) | replace h13 := notF h13 | skip
      obtain ⟨hN1, hN2⟩ := few_ok (decide_eq_true h9)
      obtain ⟨hN3, hN4⟩ := few_ok (decide_eq_true h13)
      refine W_skip ?_
      refine tN ?_
      refine W_drsN (fun W_ => Blk W_ g2 26 #[.int .i64 m.id, .int .i64 m.rows, vc, vs] ∧ Blk W_ g3 26 #[.int .i64 n.id, .int .i64 n.rows, uc, us]) [0, 2, 1, 3, 4, 5] [true, true, false, false, false, true] (by kernel_rfl) (by kernel_rfl) (⟨hB2.drew, hB3.drew⟩) ?_
      obtain ⟨w7, hw_⟩ : ∃ w7 : World, w7 = World.drew w5 := ⟨_, rfl⟩
      rw [← hw_]
      have hb : Below w5.heap.size w5 w7 := by rw [hw_]; exact bdrew (Below.refl _ _)
      clear hw_
      have hS := hb
      replace hbw := bthen hbw hb
      replace hB2 := hB2.bel hb
      replace hB3 := hB3.bel hb
      have hz_w7 := hb.size
      clear hb
      refine oY rfl (fun W_ hW_ => (X.ldBN rfl hW_.1 Tryd.underlying26 rfl siz26)) rfl ?_
      refine oY rfl (fun W_ hW_ => (X.ldBN rfl hW_.2 Tryd.underlying26 rfl siz26)) rfl ?_
      refine oL rfl (fun Q_ hQ_ hP_ => ?_)
      refine sc _ Tryd.func12 rfl (by kernel_rfl) rfl rfl ((Plain_any m _ _ _ (hc.bel hbw) (hs.bel hbw) hN1 hN2).mono ?_)
      rintro e_ w8 ⟨vr, rfl, hr1, hb⟩
      refine cR ?_
      replace hbw := bthen hbw hb
      replace hB2 := hB2.bel hb
      replace hB3 := hB3.bel hb
      have hz_w8 := hb.size
      clear hb
      refine Wn (hQ_ _ _ (⟨hB2, hB3⟩) ?_)
      clear hQ_ hP_ Q_
      refine oL rfl (fun Q_ hQ_ hP_ => ?_)
      refine sc _ Tryd.func12 rfl (by kernel_rfl) rfl rfl ((Plain_any n _ _ _ (kc.bel hbw) (ks.bel hbw) hN3 hN4).mono ?_)
      rintro e_ w9 ⟨ur, rfl, hr2, hb⟩
      refine cR ?_
      replace hbw := bthen hbw hb
      replace hB2 := hB2.bel hb
      replace hB3 := hB3.bel hb
      replace hr1 := hr1.bel hb
      have hz_w9 := hb.size
      clear hb
      refine Wn (hQ_ _ _ (⟨hB2, hB3⟩) ?_)
      clear hQ_ hP_ Q_
      refine oL rfl (fun Q_ hQ_ hP_ => ?_)
      refine sc _ Tryd.func13 rfl (by kernel_rfl) rfl rfl ((RefAlike_any m n _ _ _ _ _ (hc.bel hbw) hr1 (kc.bel hbw) hr2).mono ?_)
      rintro e_ w10 ⟨rfl, hb⟩
      refine cR ?_
      replace hbw := bthen hbw hb
      replace hB2 := hB2.bel hb
      replace hB3 := hB3.bel hb
      replace hr1 := hr1.bel hb
      replace hr2 := hr2.bel hb
      have hz_w10 := hb.size
      clear hb
      refine Wn (hQ_ _ _ (⟨hB2, hB3⟩) ?_)
      clear hQ_ hP_ Q_
      rw [hz]
      refine oY rfl (fun W_ hW_ => (X.assign rfl)) rfl ?_
      refine oN ?_
      refine nN ?_
      refine W_rs ?_
      refine st (X.ldBN rfl hB2 Tryd.underlying26 rfl siz26) rfl ?_
      refine st (X.ldBN rfl hB3 Tryd.underlying26 rfl siz26) rfl ?_
      refine sc _ Tryd.func16 rfl (by kernel_rfl) rfl rfl ((Alike_any m n _ _ _ _ _ (hc.bel hbw) (hs.bel hbw) (kc.bel hbw) (ks.bel hbw)).mono ?_)
      rintro e_ w11 ⟨rfl, hb⟩
      refine cR ?_
      replace hbw := bthen hbw hb
      replace hB2 := hB2.bel hb
      replace hB3 := hB3.bel hb
      replace hr1 := hr1.bel hb
      replace hr2 := hr2.bel hb
      have hz_w11 := hb.size
      clear hb
      rw [hz]
      refine sm rfl rfl ?_
      refine st (X.beq (c := true) (.inl ⟨rfl, by simp⟩) Tryd.underlying4 rfl rfl) rfl ?_
      refine sbY rfl (rfl) rfl ?_
      refine gY (g := 25) rfl rfl rfl ?_
      refine st (X.ldBN rfl hB2 Tryd.underlying26 rfl siz26) rfl ?_
      refine gY (g := 25) rfl rfl rfl ?_
      refine st (X.ldBN rfl hB3 Tryd.underlying26 rfl siz26) rfl ?_
      refine gY (g := 25) rfl rfl rfl ?_
      refine sc _ Tryd.func17 rfl (by kernel_rfl) rfl rfl ((Same_any m n _ _ _ _ _ (hc.bel hbw) (hs.bel hbw) (kc.bel hbw) (ks.bel hbw)).mono ?_)
      rintro e_ w12 ⟨rfl, hb⟩
      refine cR ?_
      replace hbw := bthen hbw hb
      replace hB2 := hB2.bel hb
      replace hB3 := hB3.bel hb
      replace hr1 := hr1.bel hb
      replace hr2 := hr2.bel hb
      have hz_w12 := hb.size
      clear hb
      rw [hz]
      refine gY (g := 25) rfl rfl rfl ?_
      refine sm rfl rfl ?_
      refine gY (g := 25) rfl rfl rfl ?_
      refine sb rfl rfl (fun h30 => ?_) (fun h30 => ?_)
      · first | replace h30 := of_decide_eq_true h30 | replace h30 := of_decide_eq_false (notT h30) | replace h30 := notT h30 | skip
        refine gY (g := 30) rfl rfl rfl ?_
        refine st (X.fa fa26_0 rfl) rfl ?_
        refine gY (g := 30) rfl rfl rfl ?_
        refine st (X.ldL rfl hB2 Tryd.underlying3 rfl rfl) rfl ?_
        refine gY (g := 30) rfl rfl rfl ?_
        refine st (X.fa fa26_0 rfl) rfl ?_
        refine gY (g := 30) rfl rfl rfl ?_
        refine st (X.ldL rfl hB3 Tryd.underlying3 rfl rfl) rfl ?_
        refine gY (g := 30) rfl rfl rfl ?_
        refine st (X.eql rfl rfl) rfl ?_
        refine gY (g := 25) rfl rfl rfl ?_
        refine st (X.pickT rfl rfl) rfl ?_
        refine gY (g := 25) rfl rfl rfl ?_
        refine st (X.beq (c := true) (.inl ⟨rfl, by rw [h30]; simp⟩) Tryd.underlying4 rfl rfl) rfl ?_
        refine st (X.pickT rfl rfl) rfl ?_
        refine sbY rfl (rfl) rfl ?_
        refine gY (g := 39) rfl rfl rfl ?_
        refine st (X.ldBN rfl hB2 Tryd.underlying26 rfl siz26) rfl ?_
        refine gY (g := 39) rfl rfl rfl ?_
        refine st (X.ldBN rfl hB2 Tryd.underlying26 rfl siz26) rfl ?_
        refine gY (g := 39) rfl rfl rfl ?_
        refine sc _ Tryd.func17 rfl (by kernel_rfl) rfl rfl ((Same_any m m _ _ _ _ _ (hc.bel hbw) (hs.bel hbw) (hc.bel hbw) (hs.bel hbw)).mono ?_)
        rintro e_ w13 ⟨rfl, hb⟩
        refine cR ?_
        replace hbw := bthen hbw hb
        replace hB2 := hB2.bel hb
        replace hB3 := hB3.bel hb
        replace hr1 := hr1.bel hb
        replace hr2 := hr2.bel hb
        have hz_w13 := hb.size
        clear hb
        rw [show (decide (m.id = m.id) && alike m m) = true by simp [alike_refl']]
        refine st (X.pickT rfl rfl) rfl ?_
        refine sbY rfl (rfl) rfl ?_
        refine gY (g := 44) rfl rfl rfl ?_
        refine sc _ Tryd.func9 rfl (by kernel_rfl) rfl rfl ((awake_any _ (hT.bel hbw)).mono ?_)
        rintro e_ w14 ⟨rfl, hb⟩
        refine cR ?_
        replace hbw := bthen hbw hb
        replace hB2 := hB2.bel hb
        replace hB3 := hB3.bel hb
        replace hr1 := hr1.bel hb
        replace hr2 := hr2.bel hb
        have hz_w14 := hb.size
        clear hb
        refine st (X.pickT rfl rfl) rfl ?_
        refine sa rfl rfl ?_
        refine Wn ?_
        refine tN ?_
        refine W_ret ?_
        exact (rT rfl rfl ⟨rfl, hbw⟩).1
      · first | replace h30 := of_decide_eq_false h30 | replace h30 := of_decide_eq_true (notF h30) | replace h30 := notF h30 | skip
        refine gN (g := 30) rfl rfl rfl rfl ?_
        refine gN (g := 30) rfl rfl rfl rfl ?_
        refine gN (g := 30) rfl rfl rfl rfl ?_
        refine gN (g := 30) rfl rfl rfl rfl ?_
        refine gN (g := 30) rfl rfl rfl rfl ?_
        refine gY (g := 25) rfl rfl rfl ?_
        refine st (X.pickF rfl rfl) rfl ?_
        refine gY (g := 25) rfl rfl rfl ?_
        refine st (X.beq (c := true) (.inl ⟨rfl, by rw [h30]; simp⟩) Tryd.underlying4 rfl rfl) rfl ?_
        refine st (X.pickT rfl rfl) rfl ?_
        refine sbY rfl (rfl) rfl ?_
        refine gY (g := 39) rfl rfl rfl ?_
        refine st (X.ldBN rfl hB2 Tryd.underlying26 rfl siz26) rfl ?_
        refine gY (g := 39) rfl rfl rfl ?_
        refine st (X.ldBN rfl hB2 Tryd.underlying26 rfl siz26) rfl ?_
        refine gY (g := 39) rfl rfl rfl ?_
        refine sc _ Tryd.func17 rfl (by kernel_rfl) rfl rfl ((Same_any m m _ _ _ _ _ (hc.bel hbw) (hs.bel hbw) (hc.bel hbw) (hs.bel hbw)).mono ?_)
        rintro e_ w15 ⟨rfl, hb⟩
        refine cR ?_
        replace hbw := bthen hbw hb
        replace hB2 := hB2.bel hb
        replace hB3 := hB3.bel hb
        replace hr1 := hr1.bel hb
        replace hr2 := hr2.bel hb
        have hz_w15 := hb.size
        clear hb
        rw [show (decide (m.id = m.id) && alike m m) = true by simp [alike_refl']]
        refine st (X.pickT rfl rfl) rfl ?_
        refine sbY rfl (rfl) rfl ?_
        refine gY (g := 44) rfl rfl rfl ?_
        refine sc _ Tryd.func9 rfl (by kernel_rfl) rfl rfl ((awake_any _ (hT.bel hbw)).mono ?_)
        rintro e_ w16 ⟨rfl, hb⟩
        refine cR ?_
        replace hbw := bthen hbw hb
        replace hB2 := hB2.bel hb
        replace hB3 := hB3.bel hb
        replace hr1 := hr1.bel hb
        replace hr2 := hr2.bel hb
        have hz_w16 := hb.size
        clear hb
        refine st (X.pickT rfl rfl) rfl ?_
        refine sa rfl rfl ?_
        refine Wn ?_
        refine tN ?_
        refine W_ret ?_
        exact (rT rfl rfl ⟨rfl, hbw⟩).1
end Go.Proofs.YtcdlileichdeoaaDoor
