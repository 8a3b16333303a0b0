/- armariumlaw19.ManifestTurned. -/
import Derived.Test.YtcdlileichdeoaaDoorManAwake
import Derived.Test.YtcdlileichdeoaaDoorManTurnedPlain
import Derived.Test.YtcdlileichdeoaaDoorManLaid
import Derived.Test.YtcdlileichdeoaaDoorTree
namespace Go.Proofs.YtcdlileichdeoaaDoor
open Go.RowKit
theorem StrsAt.sums {w : World} {v : Value} {ls : List (List Chk)} (h : StrsAt w v ls) : ∀ l ∈ ls, ∀ c ∈ l, c.sum.length = 32 := by
  obtain ⟨us, hR, hu⟩ := h
  intro l hl c hc
  obtain ⟨i, hi⟩ := List.getElem?_of_mem hl
  obtain ⟨u, _, hcu⟩ := hu i l hi
  exact hcu.2 c hc
theorem Decode_error {s : List UInt8} {k : Int} (hk : decodeM s = .error k) (hs : s.length < 1000000) (w : World) (hT : UT w) :
    Calls Tryd.prog 10 #[str s] w fun e w' => e = .returned (.tuple #[.agg #[.int .i64 0, .int .i64 0, .slice none 0 0, .slice none 0 0], .int .i64 k]) ∧ Below w.heap.size w w' := by
  refine (Decode_any s w hT hs).mono ?_
  rintro e w' ⟨hb, hp⟩
  rw [hk] at hp
  exact ⟨hp, hb⟩
theorem Encode_any (m : Man) (vc vs : Value) (w : World) (hc : ColsAt w vc m.cols) (hs : StrsAt w vs m.strs) (hT : UT w) :
    Calls Tryd.prog 15 #[manV m vc vs] w fun e w' => e = .returned (.tuple #[str (if manErr colsOk m = 0 then encode m else []), .int .i64 (manErr colsOk m)]) ∧ Below w.heap.size w w' := by
  by_cases he : manErr colsOk m = 0
  · rw [if_pos he, he]; exact encode_ok m vc vs w hc hs hT he
  · rw [if_neg he]; exact encode_err m vc vs w hc hs hT he
set_option maxRecDepth 10000 in
theorem ManifestTurned_walk (w : World) (m : Man) (vc vs : Value) (hc : ColsAt w vc m.cols) (hs : StrsAt w vs m.strs) (i : Int) (t : UInt8) (hT : UT w) :
    Calls Tryd.prog 4 #[manV m vc vs, .int .i64 i, bv t] w fun e w' => e = .returned (.bool true) ∧ Below w.heap.size w w' := by
  obtain ⟨ac, cc, rfl, hcn, hcc⟩ := hc.1.shape
  obtain ⟨us, hR, hu⟩ := hs
  have hs : StrsAt w _ m.strs := ⟨us, hR, hu⟩
  obtain ⟨sa_, cs, rfl, hsn, hsc⟩ := hR.shape
  have hsum := hs.sums
  obtain ⟨s, hsv⟩ : ∃ s, (if manErr colsOk m = 0 then encode m else []) = s := ⟨_, rfl⟩
  refine W_enter (args := [.agg #[.int .i64 m.id, .int .i64 m.rows, .slice ac m.cols.length cc, .slice sa_ m.strs.length cs], .int .i64 i, bv t]) 62 Tryd.func4 rfl rfl rfl ?_
  refine W_sub [(0, .agg #[.int .i64 m.id, .int .i64 m.rows, .slice ac m.cols.length cc, .slice sa_ m.strs.length cs]), (1, .int .i64 i), (2, bv t)] ?_ ⟨rfl, rfl, rfl, trivial⟩
  have hbw := Below.refl w.heap.size w
  refine W_rs ?_
  refine sboxA rfl rfl (fun g3 w1 hB3 hg3 hb hl3 => ?_)
  replace hbw := bthen hbw hb
  have hz_w1 := hb.size
  clear hb
  refine sa rfl rfl ?_
  refine Wn ?_
  refine tN ?_
  refine W_seq ?_
  refine W_rs ?_
  refine st (X.ldBN rfl hB3 Tryd.underlying26 rfl siz26) rfl ?_
  refine sc _ Tryd.func14 rfl (by kernel_rfl) rfl rfl ((Few_any m _ _ _ (hc.bel hbw) (hs.bel hbw)).mono ?_)
  rintro e_ w2 ⟨rfl, hb⟩
  refine cR ?_
  replace hbw := bthen hbw hb
  replace hB3 := hB3.bel hb
  have hz_w2 := hb.size
  clear hb
  refine st (X.not rfl) rfl ?_
  refine Wn ?_
  refine tN ?_
  refine W_if rfl (fun h13 => ?_) (fun h13 => ?_)
  · first | replace h13 := of_decide_eq_true h13 | replace h13 := of_decide_eq_false (notT h13) | replace h13 := notT h13 | skip
    refine W_rs ?_
    refine sc _ Tryd.func9 rfl (by kernel_rfl) rfl rfl ((awake_any _ (hT.bel hbw)).mono ?_)
    rintro e_ w3 ⟨rfl, hb⟩
    refine cR ?_
    replace hbw := bthen hbw hb
    replace hB3 := hB3.bel hb
    have hz_w3 := hb.size
    clear hb
    refine sa rfl rfl ?_
    refine Wn ?_
    refine tN ?_
    refine W_ret (tR ?_)
    exact (rT rfl rfl ⟨rfl, hbw⟩).1
  · first | replace h13 := of_decide_eq_false h13 | replace h13 := of_decide_eq_true (notF h13) | replace h13 := notF h13 | skip
    refine W_skip ?_
    refine tN ?_
    refine W_rs ?_
    refine st (X.ldBN rfl hB3 Tryd.underlying26 rfl siz26) rfl ?_
    refine sc _ Tryd.func15 rfl (by kernel_rfl) rfl rfl ((Encode_any m _ _ _ (hc.bel hbw) (hs.bel hbw) (hT.bel hbw)).mono ?_)
    rintro e_ w4 ⟨rfl, hb⟩
    refine cR ?_
    replace hbw := bthen hbw hb
    replace hB3 := hB3.bel hb
    have hz_w4 := hb.size
    clear hb
    rw [hsv]
    refine sm rfl rfl ?_
    refine st (X.ext rfl rfl) rfl ?_
    refine st (X.ext rfl rfl) rfl ?_
    refine sa rfl rfl ?_
    refine sa rfl rfl ?_
    refine Wn ?_
    refine tN ?_
    refine W_seq ?_
    refine W_rs ?_
    refine sm rfl rfl ?_
    refine st (X.neq rfl rfl) rfl ?_
    refine sb rfl rfl (fun h22 => ?_) (fun h22 => ?_)
    · first | replace h22 := of_decide_eq_true h22 | replace h22 := of_decide_eq_false (notT h22) | replace h22 := notT h22 | skip
      refine gN (g := 22) rfl rfl rfl rfl ?_
      refine gN (g := 22) rfl rfl rfl rfl ?_
      refine st (X.pickT rfl rfl) rfl ?_
      refine sm rfl rfl ?_
      refine gN (g := 26) rfl rfl rfl rfl ?_
      refine gN (g := 26) rfl rfl rfl rfl ?_
      refine gN (g := 26) rfl rfl rfl rfl ?_
      refine gN (g := 26) rfl rfl rfl rfl ?_
      refine st (X.pickT rfl rfl) rfl ?_
      refine sm rfl rfl ?_
      refine gN (g := 32) rfl rfl rfl rfl ?_
      refine gN (g := 32) rfl rfl rfl rfl ?_
      refine st (X.pickT rfl rfl) rfl ?_
      refine Wn ?_
      refine tN ?_
      refine W_yes rfl (rfl) ?_
      refine W_rs ?_
      refine sc _ Tryd.func9 rfl (by kernel_rfl) rfl rfl ((awake_any _ (hT.bel hbw)).mono ?_)
      rintro e_ w5 ⟨rfl, hb⟩
      refine cR ?_
      replace hbw := bthen hbw hb
      replace hB3 := hB3.bel hb
      have hz_w5 := hb.size
      clear hb
      refine sa rfl rfl ?_
      refine Wn ?_
      refine tN ?_
      refine W_ret (tR ?_)
      exact (rT rfl rfl ⟨rfl, hbw⟩).1
    · first | replace h22 := of_decide_eq_false h22 | replace h22 := of_decide_eq_true (notF h22) | replace h22 := notF h22 | skip
      refine gY (g := 22) rfl rfl rfl ?_
      refine sm rfl rfl ?_
      refine gY (g := 22) rfl rfl rfl ?_
      refine st (X.lss rfl rfl) rfl ?_
      refine st (X.pickF rfl rfl) rfl ?_
      refine sb rfl rfl (fun h26 => ?_) (fun h26 => ?_)
      · first | replace h26 := of_decide_eq_true h26 | replace h26 := of_decide_eq_false (notT h26) | replace h26 := notT h26 | skip
        refine gN (g := 26) rfl rfl rfl rfl ?_
        refine gN (g := 26) rfl rfl rfl rfl ?_
        refine gN (g := 26) rfl rfl rfl rfl ?_
        refine gN (g := 26) rfl rfl rfl rfl ?_
        refine st (X.pickT rfl rfl) rfl ?_
        refine sm rfl rfl ?_
        refine gN (g := 32) rfl rfl rfl rfl ?_
        refine gN (g := 32) rfl rfl rfl rfl ?_
        refine st (X.pickT rfl rfl) rfl ?_
        refine Wn ?_
        refine tN ?_
        refine W_yes rfl (rfl) ?_
        refine W_rs ?_
        refine sc _ Tryd.func9 rfl (by kernel_rfl) rfl rfl ((awake_any _ (hT.bel hbw)).mono ?_)
        rintro e_ w6 ⟨rfl, hb⟩
        refine cR ?_
        replace hbw := bthen hbw hb
        replace hB3 := hB3.bel hb
        have hz_w6 := hb.size
        clear hb
        refine sa rfl rfl ?_
        refine Wn ?_
        refine tN ?_
        refine W_ret (tR ?_)
        exact (rT rfl rfl ⟨rfl, hbw⟩).1
      · first | replace h26 := of_decide_eq_false h26 | replace h26 := of_decide_eq_true (notF h26) | replace h26 := notF h26 | skip
        refine gY (g := 26) rfl rfl rfl ?_
        refine sm rfl rfl ?_
        refine gY (g := 26) rfl rfl rfl ?_
        refine sm rfl rfl ?_
        refine gY (g := 26) rfl rfl rfl ?_
        refine st (X.lenS rfl rfl Tryd.underlying9) rfl ?_
        refine gY (g := 26) rfl rfl rfl ?_
        refine st (X.geq rfl rfl) rfl ?_
        refine st (X.pickF rfl rfl) rfl ?_
        refine sb rfl rfl (fun h32 => ?_) (fun h32 => ?_)
        · first | replace h32 := of_decide_eq_true h32 | replace h32 := of_decide_eq_false (notT h32) | replace h32 := notT h32 | skip
          refine gN (g := 32) rfl rfl rfl rfl ?_
          refine gN (g := 32) rfl rfl rfl rfl ?_
          refine st (X.pickT rfl rfl) rfl ?_
          refine Wn ?_
          refine tN ?_
          refine W_yes rfl (rfl) ?_
          refine W_rs ?_
          refine sc _ Tryd.func9 rfl (by kernel_rfl) rfl rfl ((awake_any _ (hT.bel hbw)).mono ?_)
          rintro e_ w7 ⟨rfl, hb⟩
          refine cR ?_
          replace hbw := bthen hbw hb
          replace hB3 := hB3.bel hb
          have hz_w7 := hb.size
          clear hb
          refine sa rfl rfl ?_
          refine Wn ?_
          refine tN ?_
          refine W_ret (tR ?_)
          exact (rT rfl rfl ⟨rfl, hbw⟩).1
        · first | replace h32 := of_decide_eq_false h32 | replace h32 := of_decide_eq_true (notF h32) | replace h32 := notF h32 | skip
          refine gY (g := 32) rfl rfl rfl ?_
          refine sm rfl rfl ?_
          refine gY (g := 32) rfl rfl rfl ?_
          refine st (X.eql rfl rfl) rfl ?_
          refine st (X.pickF rfl rfl) rfl ?_
          refine Wn ?_
          refine tN ?_
          refine W_if rfl (fun h35 => ?_) (fun h35 => ?_)
          · first | replace h35 := of_decide_eq_true h35 | replace h35 := of_decide_eq_false (notT h35) | replace h35 := notT h35 | skip
            refine W_rs ?_
            refine sc _ Tryd.func9 rfl (by kernel_rfl) rfl rfl ((awake_any _ (hT.bel hbw)).mono ?_)
            rintro e_ w8 ⟨rfl, hb⟩
            refine cR ?_
            replace hbw := bthen hbw hb
            replace hB3 := hB3.bel hb
            have hz_w8 := hb.size
            clear hb
            refine sa rfl rfl ?_
            refine Wn ?_
            refine tN ?_
            refine W_ret (tR ?_)
            exact (rT rfl rfl ⟨rfl, hbw⟩).1
          · first | replace h35 := of_decide_eq_false h35 | replace h35 := of_decide_eq_true (notF h35) | replace h35 := notF h35 | skip
            obtain ⟨q, rfl⟩ : ∃ q : Nat, i = q := ⟨i.toNat, by omega⟩
            have hfew : few m = true := decide_eq_true h13
            have hok : manErr colsOk m = 0 := by simpa using h22
            rw [if_pos hok] at hsv
            have hsl := encode_few hfew hsum
            rw [hsv] at hsl
            have hql : q < s.length := by omega
            have ht0 : t ≠ 0 := fun h => by subst h; revert h35; simp
            refine W_skip ?_
            refine tN ?_
            refine W_trsN (fun W_ => Below w4.heap.size w4 W_) (.yes 0 (.yes 1 (.yes 2 (.yes 3 (.yes 4 (.yes 5 (.yes 6 (.yes 7 (.yes 11 (.yes 12 (.yes 13 (.yes 14 (.pick (.alt 8 (.pick (.alt 9 (.yes 10 (.yes 15 (.pick (.alt 16 (.yes 17 (.yes 18 (.yes 19 (.pick (.alt 20 (.pick (.alt 21 (.yes 22 (.nil)) (.no))) (.no)))))) (.alt 20 (.pick (.alt 16 (.yes 17 (.yes 18 (.yes 19 (.pick (.alt 21 (.yes 22 (.nil)) (.no)))))) (.no))) (.no)))))) (.alt 20 (.pick (.alt 9 (.yes 10 (.yes 15 (.pick (.alt 16 (.yes 17 (.yes 18 (.yes 19 (.pick (.alt 21 (.yes 22 (.nil)) (.no)))))) (.no))))) (.no))) (.no)))) (.alt 20 (.pick (.alt 8 (.pick (.alt 9 (.yes 10 (.yes 15 (.pick (.alt 16 (.yes 17 (.yes 18 (.yes 19 (.pick (.alt 21 (.yes 22 (.nil)) (.no)))))) (.no))))) (.no))) (.no))) (.no)))))))))))))))) (by kernel_rfl) (by kernel_rfl) (bdrew (Below.refl _ _)) ?_
            obtain ⟨w9, hw_⟩ : ∃ w9 : World, w9 = World.drew w4 := ⟨_, rfl⟩
            rw [← hw_]
            have hb : Below w4.heap.size w4 w9 := by rw [hw_]; exact bdrew (Below.refl _ _)
            clear hw_
            have hS := hb
            replace hbw := bthen hbw hb
            replace hB3 := hB3.bel hb
            have hz_w9 := hb.size
            clear hb
            refine uY rfl (fun W_ hW_ => (X.move rfl)) rfl ?_
            refine uY rfl (fun W_ hW_ => (X.move rfl)) rfl ?_
            refine uY rfl (fun W_ hW_ => (X.toS (j := q) rfl rfl Tryd.underlying9 rfl (by omega))) rfl ?_
            refine uY rfl (fun W_ hW_ => (X.move rfl)) rfl ?_
            refine uY rfl (fun W_ hW_ => (X.move rfl)) rfl ?_
            refine uY rfl (fun W_ hW_ => (X.idxS (q := q) rfl rfl Tryd.underlying9 rfl hql)) rfl ?_
            refine uY rfl (fun W_ hW_ => (X.move rfl)) rfl ?_
            refine uY rfl (fun W_ hW_ => (X.bits (by simp) rfl rfl (xor_u8 _ _))) rfl ?_
            refine uY rfl (fun W_ hW_ => (X.move rfl)) rfl ?_
            refine uY rfl (fun W_ hW_ => (X.move rfl)) rfl ?_
            refine uY rfl (fun W_ hW_ => (X.add64 rfl rfl (by omega))) rfl ?_
            refine uY rfl (fun W_ hW_ => (X.fromS (i := q + 1) rfl rfl Tryd.underlying9 rfl (by omega))) rfl ?_
            refine uP (uA rfl (fun Q_ hQ_ hP_ => ?_) (uA rfl (fun Q_ hQ_ hP_ => ?_) u0))
            · refine sbs1 rfl Tryd.underlying41 inf5 rfl rfl (by decide) (by decide) rfl (fun g46 w10 hR46 hg46 hb => ?_)
              replace hS := bthen hS hb
              replace hbw := bthen hbw hb
              replace hB3 := hB3.bel hb
              have hz_w10 := hb.size
              clear hb
              have hl46 := hR46.blt (by decide)
              refine Wn (hQ_ _ _ hS ?_)
              clear hQ_ hP_ Q_
              refine uP (uA rfl (fun Q_ hQ_ hP_ => ?_) (uA rfl (fun Q_ hQ_ hP_ => ?_) u0))
              · refine st (X.strOf (s := [s.getD q 0 ^^^ t]) rfl Tryd.underlying41 Tryd.underlying5 Tryd.underlying9 hR46.reads) rfl ?_
                refine Wn (hQ_ _ _ hS ?_)
                clear hQ_ hP_ Q_
                refine uY rfl (fun W_ hW_ => (X.cat rfl rfl (by rw [List.length_take, List.length_singleton]; omega))) rfl ?_
                refine uY rfl (fun W_ hW_ => (X.cat rfl rfl (by rw [List.length_append, List.length_take, List.length_singleton, List.length_drop]; omega))) rfl ?_
                refine uP (uA rfl (fun Q_ hQ_ hP_ => ?_) (uA rfl (fun Q_ hQ_ hP_ => ?_) u0))
                · obtain ⟨k, hk0, hk⟩ := encode_turned m q t (by rw [hsv]; exact hql) ht0
                  rw [hsv] at hk
                  refine sc _ Tryd.func10 rfl (by kernel_rfl) rfl rfl ((Decode_error hk (by simp; omega) _ (hT.bel hbw)).mono ?_)
                  rintro e_ w11 ⟨rfl, hb⟩
                  refine cR ?_
                  replace hS := bthen hS hb
                  replace hbw := bthen hbw hb
                  replace hB3 := hB3.bel hb
                  replace hR46 := hR46.bel hb
                  have hz_w11 := hb.size
                  clear hb
                  refine Wn (hQ_ _ _ hS ?_)
                  clear hQ_ hP_ Q_
                  refine uY rfl (fun W_ hW_ => (X.move rfl)) rfl ?_
                  refine uY rfl (fun W_ hW_ => (X.ext rfl rfl)) rfl ?_
                  refine uY rfl (fun W_ hW_ => (X.ext rfl rfl)) rfl ?_
                  refine uP (uA rfl (fun Q_ hQ_ hP_ => ?_) u0)
                  refine salA inf26 rfl (fun g9 w12 hB9 hg9 hb hl9 => ?_)
                  replace hS := bthen hS hb
                  replace hbw := bthen hbw hb
                  replace hB3 := hB3.bel hb
                  replace hR46 := hR46.bel hb
                  have hz_w12 := hb.size
                  clear hb
                  refine Wn (hQ_ _ _ hS ?_)
                  clear hQ_ hP_ Q_
                  refine uP (uA rfl (fun Q_ hQ_ hP_ => ?_) u0)
                  refine ssBN rfl rfl hB9 siz26 rfl rfl (fun w13 hB_ hc_ => ?_)
                  replace hB9 := hB_
                  clear hB_
                  replace hS := bset hS hc_ (by omega)
                  replace hB3 := hB3.chg hc_ (by first | (show ¬ _ = _; omega) | (intro k_ hk_; simp [Value.ownBlock] at hk_; subst hk_; show ¬ _ = _; omega))
                  replace hR46 := hR46.chg hc_ (by first | (show ¬ _ = _; omega) | (intro k_ hk_; simp [Value.ownBlock] at hk_; subst hk_; show ¬ _ = _; omega))
                  replace hbw := bset hbw hc_ (by omega)
                  have hz_w13 := hc_.size
                  clear hc_
                  refine Wn (hQ_ _ _ hS ?_)
                  clear hQ_ hP_ Q_
                  refine uY rfl (fun W_ hW_ => (X.assign rfl)) rfl ?_
                  refine uN ?_
                  refine nN ?_
                  refine W_rs ?_
                  refine sm rfl rfl ?_
                  refine st (X.neq rfl rfl) rfl ?_
                  refine sbY rfl (decide_eq_true hk0) rfl ?_
                  refine gY (g := 59) rfl rfl rfl ?_
                  refine sc _ Tryd.func9 rfl (by kernel_rfl) rfl rfl ((awake_any _ (hT.bel hbw)).mono ?_)
                  rintro e_ w14 ⟨rfl, hb⟩
                  refine cR ?_
                  replace hbw := bthen hbw hb
                  replace hB3 := hB3.bel hb
                  replace hR46 := hR46.bel hb
                  replace hB9 := hB9.bel hb
                  have hz_w14 := hb.size
                  clear hb
                  refine st (X.pickT rfl rfl) rfl ?_
                  refine sa rfl rfl ?_
                  refine Wn ?_
                  refine tN ?_
                  refine W_ret ?_
                  exact (rT rfl rfl ⟨rfl, hbw⟩).1
                · refine salA inf26 rfl (fun g9 w15 hB9 hg9 hb hl9 => ?_)
                  replace hS := bthen hS hb
                  replace hbw := bthen hbw hb
                  replace hB3 := hB3.bel hb
                  replace hR46 := hR46.bel hb
                  have hz_w15 := hb.size
                  clear hb
                  refine Wn (hQ_ _ _ hS ?_)
                  clear hQ_ hP_ Q_
                  refine uP (uA rfl (fun Q_ hQ_ hP_ => ?_) u0)
                  obtain ⟨k, hk0, hk⟩ := encode_turned m q t (by rw [hsv]; exact hql) ht0
                  rw [hsv] at hk
                  refine sc _ Tryd.func10 rfl (by kernel_rfl) rfl rfl ((Decode_error hk (by simp; omega) _ (hT.bel hbw)).mono ?_)
                  rintro e_ w16 ⟨rfl, hb⟩
                  refine cR ?_
                  replace hS := bthen hS hb
                  replace hbw := bthen hbw hb
                  replace hB3 := hB3.bel hb
                  replace hR46 := hR46.bel hb
                  replace hB9 := hB9.bel hb
                  have hz_w16 := hb.size
                  clear hb
                  refine Wn (hQ_ _ _ hS ?_)
                  clear hQ_ hP_ Q_
                  refine uY rfl (fun W_ hW_ => (X.move rfl)) rfl ?_
                  refine uY rfl (fun W_ hW_ => (X.ext rfl rfl)) rfl ?_
                  refine uY rfl (fun W_ hW_ => (X.ext rfl rfl)) rfl ?_
                  refine uP (uA rfl (fun Q_ hQ_ hP_ => ?_) u0)
                  refine ssBN rfl rfl hB9 siz26 rfl rfl (fun w17 hB_ hc_ => ?_)
                  replace hB9 := hB_
                  clear hB_
                  replace hS := bset hS hc_ (by omega)
                  replace hB3 := hB3.chg hc_ (by first | (show ¬ _ = _; omega) | (intro k_ hk_; simp [Value.ownBlock] at hk_; subst hk_; show ¬ _ = _; omega))
                  replace hR46 := hR46.chg hc_ (by first | (show ¬ _ = _; omega) | (intro k_ hk_; simp [Value.ownBlock] at hk_; subst hk_; show ¬ _ = _; omega))
                  replace hbw := bset hbw hc_ (by omega)
                  have hz_w17 := hc_.size
                  clear hc_
                  refine Wn (hQ_ _ _ hS ?_)
                  clear hQ_ hP_ Q_
                  refine uY rfl (fun W_ hW_ => (X.assign rfl)) rfl ?_
                  refine uN ?_
                  refine nN ?_
                  refine W_rs ?_
                  refine sm rfl rfl ?_
                  refine st (X.neq rfl rfl) rfl ?_
                  refine sbY rfl (decide_eq_true hk0) rfl ?_
                  refine gY (g := 59) rfl rfl rfl ?_
                  refine sc _ Tryd.func9 rfl (by kernel_rfl) rfl rfl ((awake_any _ (hT.bel hbw)).mono ?_)
                  rintro e_ w18 ⟨rfl, hb⟩
                  refine cR ?_
                  replace hbw := bthen hbw hb
                  replace hB3 := hB3.bel hb
                  replace hR46 := hR46.bel hb
                  replace hB9 := hB9.bel hb
                  have hz_w18 := hb.size
                  clear hb
                  refine st (X.pickT rfl rfl) rfl ?_
                  refine sa rfl rfl ?_
                  refine Wn ?_
                  refine tN ?_
                  refine W_ret ?_
                  exact (rT rfl rfl ⟨rfl, hbw⟩).1
              · refine salA inf26 rfl (fun g9 w19 hB9 hg9 hb hl9 => ?_)
                replace hS := bthen hS hb
                replace hbw := bthen hbw hb
                replace hB3 := hB3.bel hb
                replace hR46 := hR46.bel hb
                have hz_w19 := hb.size
                clear hb
                refine Wn (hQ_ _ _ hS ?_)
                clear hQ_ hP_ Q_
                refine uP (uA rfl (fun Q_ hQ_ hP_ => ?_) u0)
                refine st (X.strOf (s := [s.getD q 0 ^^^ t]) rfl Tryd.underlying41 Tryd.underlying5 Tryd.underlying9 hR46.reads) rfl ?_
                refine Wn (hQ_ _ _ hS ?_)
                clear hQ_ hP_ Q_
                refine uY rfl (fun W_ hW_ => (X.cat rfl rfl (by rw [List.length_take, List.length_singleton]; omega))) rfl ?_
                refine uY rfl (fun W_ hW_ => (X.cat rfl rfl (by rw [List.length_append, List.length_take, List.length_singleton, List.length_drop]; omega))) rfl ?_
                refine uP (uA rfl (fun Q_ hQ_ hP_ => ?_) u0)
                obtain ⟨k, hk0, hk⟩ := encode_turned m q t (by rw [hsv]; exact hql) ht0
                rw [hsv] at hk
                refine sc _ Tryd.func10 rfl (by kernel_rfl) rfl rfl ((Decode_error hk (by simp; omega) _ (hT.bel hbw)).mono ?_)
                rintro e_ w20 ⟨rfl, hb⟩
                refine cR ?_
                replace hS := bthen hS hb
                replace hbw := bthen hbw hb
                replace hB3 := hB3.bel hb
                replace hR46 := hR46.bel hb
                replace hB9 := hB9.bel hb
                have hz_w20 := hb.size
                clear hb
                refine Wn (hQ_ _ _ hS ?_)
                clear hQ_ hP_ Q_
                refine uY rfl (fun W_ hW_ => (X.move rfl)) rfl ?_
                refine uY rfl (fun W_ hW_ => (X.ext rfl rfl)) rfl ?_
                refine uY rfl (fun W_ hW_ => (X.ext rfl rfl)) rfl ?_
                refine uP (uA rfl (fun Q_ hQ_ hP_ => ?_) u0)
                refine ssBN rfl rfl hB9 siz26 rfl rfl (fun w21 hB_ hc_ => ?_)
                replace hB9 := hB_
                clear hB_
                replace hS := bset hS hc_ (by omega)
                replace hB3 := hB3.chg hc_ (by first | (show ¬ _ = _; omega) | (intro k_ hk_; simp [Value.ownBlock] at hk_; subst hk_; show ¬ _ = _; omega))
                replace hR46 := hR46.chg hc_ (by first | (show ¬ _ = _; omega) | (intro k_ hk_; simp [Value.ownBlock] at hk_; subst hk_; show ¬ _ = _; omega))
                replace hbw := bset hbw hc_ (by omega)
                have hz_w21 := hc_.size
                clear hc_
                refine Wn (hQ_ _ _ hS ?_)
                clear hQ_ hP_ Q_
                refine uY rfl (fun W_ hW_ => (X.assign rfl)) rfl ?_
                refine uN ?_
                refine nN ?_
                refine W_rs ?_
                refine sm rfl rfl ?_
                refine st (X.neq rfl rfl) rfl ?_
                refine sbY rfl (decide_eq_true hk0) rfl ?_
                refine gY (g := 59) rfl rfl rfl ?_
                refine sc _ Tryd.func9 rfl (by kernel_rfl) rfl rfl ((awake_any _ (hT.bel hbw)).mono ?_)
                rintro e_ w22 ⟨rfl, hb⟩
                refine cR ?_
                replace hbw := bthen hbw hb
                replace hB3 := hB3.bel hb
                replace hR46 := hR46.bel hb
                replace hB9 := hB9.bel hb
                have hz_w22 := hb.size
                clear hb
                refine st (X.pickT rfl rfl) rfl ?_
                refine sa rfl rfl ?_
                refine Wn ?_
                refine tN ?_
                refine W_ret ?_
                exact (rT rfl rfl ⟨rfl, hbw⟩).1
            · refine salA inf26 rfl (fun g9 w23 hB9 hg9 hb hl9 => ?_)
              replace hS := bthen hS hb
              replace hbw := bthen hbw hb
              replace hB3 := hB3.bel hb
              have hz_w23 := hb.size
              clear hb
              refine Wn (hQ_ _ _ hS ?_)
              clear hQ_ hP_ Q_
              refine uP (uA rfl (fun Q_ hQ_ hP_ => ?_) u0)
              refine sbs1 rfl Tryd.underlying41 inf5 rfl rfl (by decide) (by decide) rfl (fun g46 w24 hR46 hg46 hb => ?_)
              replace hS := bthen hS hb
              replace hbw := bthen hbw hb
              replace hB3 := hB3.bel hb
              replace hB9 := hB9.bel hb
              have hz_w24 := hb.size
              clear hb
              have hl46 := hR46.blt (by decide)
              refine Wn (hQ_ _ _ hS ?_)
              clear hQ_ hP_ Q_
              refine uP (uA rfl (fun Q_ hQ_ hP_ => ?_) u0)
              refine st (X.strOf (s := [s.getD q 0 ^^^ t]) rfl Tryd.underlying41 Tryd.underlying5 Tryd.underlying9 hR46.reads) rfl ?_
              refine Wn (hQ_ _ _ hS ?_)
              clear hQ_ hP_ Q_
              refine uY rfl (fun W_ hW_ => (X.cat rfl rfl (by rw [List.length_take, List.length_singleton]; omega))) rfl ?_
              refine uY rfl (fun W_ hW_ => (X.cat rfl rfl (by rw [List.length_append, List.length_take, List.length_singleton, List.length_drop]; omega))) rfl ?_
              refine uP (uA rfl (fun Q_ hQ_ hP_ => ?_) u0)
              obtain ⟨k, hk0, hk⟩ := encode_turned m q t (by rw [hsv]; exact hql) ht0
              rw [hsv] at hk
              refine sc _ Tryd.func10 rfl (by kernel_rfl) rfl rfl ((Decode_error hk (by simp; omega) _ (hT.bel hbw)).mono ?_)
              rintro e_ w25 ⟨rfl, hb⟩
              refine cR ?_
              replace hS := bthen hS hb
              replace hbw := bthen hbw hb
              replace hB3 := hB3.bel hb
              replace hB9 := hB9.bel hb
              replace hR46 := hR46.bel hb
              have hz_w25 := hb.size
              clear hb
              refine Wn (hQ_ _ _ hS ?_)
              clear hQ_ hP_ Q_
              refine uY rfl (fun W_ hW_ => (X.move rfl)) rfl ?_
              refine uY rfl (fun W_ hW_ => (X.ext rfl rfl)) rfl ?_
              refine uY rfl (fun W_ hW_ => (X.ext rfl rfl)) rfl ?_
              refine uP (uA rfl (fun Q_ hQ_ hP_ => ?_) u0)
              refine ssBN rfl rfl hB9 siz26 rfl rfl (fun w26 hB_ hc_ => ?_)
              replace hB9 := hB_
              clear hB_
              replace hS := bset hS hc_ (by omega)
              replace hB3 := hB3.chg hc_ (by first | (show ¬ _ = _; omega) | (intro k_ hk_; simp [Value.ownBlock] at hk_; subst hk_; show ¬ _ = _; omega))
              replace hR46 := hR46.chg hc_ (by first | (show ¬ _ = _; omega) | (intro k_ hk_; simp [Value.ownBlock] at hk_; subst hk_; show ¬ _ = _; omega))
              replace hbw := bset hbw hc_ (by omega)
              have hz_w26 := hc_.size
              clear hc_
              refine Wn (hQ_ _ _ hS ?_)
              clear hQ_ hP_ Q_
              refine uY rfl (fun W_ hW_ => (X.assign rfl)) rfl ?_
              refine uN ?_
              refine nN ?_
              refine W_rs ?_
              refine sm rfl rfl ?_
              refine st (X.neq rfl rfl) rfl ?_
              refine sbY rfl (decide_eq_true hk0) rfl ?_
              refine gY (g := 59) rfl rfl rfl ?_
              refine sc _ Tryd.func9 rfl (by kernel_rfl) rfl rfl ((awake_any _ (hT.bel hbw)).mono ?_)
              rintro e_ w27 ⟨rfl, hb⟩
              refine cR ?_
              replace hbw := bthen hbw hb
              replace hB3 := hB3.bel hb
              replace hB9 := hB9.bel hb
              replace hR46 := hR46.bel hb
              have hz_w27 := hb.size
              clear hb
              refine st (X.pickT rfl rfl) rfl ?_
              refine sa rfl rfl ?_
              refine Wn ?_
              refine tN ?_
              refine W_ret ?_
              exact (rT rfl rfl ⟨rfl, hbw⟩).1
end Go.Proofs.YtcdlileichdeoaaDoor
