/- manifest.Decode. -/
import Derived.Test.YtnagmpnpgekhfaaDoorParts
import Derived.Test.YtnagmpnpgekhfaaDoorSums
namespace Go.Proofs.YtnagmpnpgekhfaaDoor
open Go.RowKit
/-- 'MAN1' -/
def man1 : List UInt8 := [77, 65, 78, 49]
def bodyOf (s : List UInt8) : List UInt8 := s.take (s.length - 4)
def decodeM (s : List UInt8) : Except Int Man :=
  if s.length < 17 then .error 10
  else if s.take 4 ≠ man1 then .error 14
  else if s.drop (s.length - 4) ≠ four (Crc.crc (bodyOf s)).toNat then .error 13
  else match partsP ((bodyOf s).drop 4) with
    | none => .error 12
    | some m => if manErr colsOk m = 0 then .ok m else .error 12
def zeroMan : Value := .agg #[.int .i64 0, .int .i64 0, .slice none 0 0, .slice none 0 0]
def DecPost (w : World) (r : Except Int Man) (e : Ending) (w' : World) : Prop :=
  Below w.heap.size w w' ∧ match r with
  | .ok m => ∃ vc vs, e = .returned (.tuple #[manV m vc vs, .int .i64 0]) ∧ ManRow w' vc vs m
  | .error k => e = .returned (.tuple #[zeroMan, .int .i64 k])
theorem bman0 (w : World) : (Instr.build 26 #[]).run Tryd.prog w = .ok (.agg #[.int .i64 0, .int .i64 0, .slice none 0 0, .slice none 0 0]) w := by kernel_rfl
theorem decode_none (s : List UInt8) (w : World) (hs : s.length < 1000000) (hpp : partsP ((bodyOf s).drop 4) = none) :
    Calls Tryd.prog 7 #[str s] w (DecPost w (decodeM s)) := by
  obtain ⟨b, hbd⟩ : ∃ b, bodyOf s = b := ⟨_, rfl⟩
  have hbl : b.length = s.length - 4 ∨ s.length < 17 := by
    rw [← hbd]; unfold bodyOf; rw [List.length_take]; omega
  rw [hbd] at hpp
  refine W_enter (args := [str s]) 47 Tryd.func7 rfl rfl rfl ?_
  refine W_sub [(0, str s)] ?_ ⟨rfl, trivial⟩
  have hbw := Below.refl w.heap.size w
  refine W_rs ?_
  refine salA inf26 rfl (fun g2 w1 hB2 hg2 hb hl2 => ?_)
  replace hbw := bthen hbw hb
  have hz_w1 := hb.size
  clear hb
  refine sa rfl rfl ?_
  refine Wn ?_
  refine tN ?_
  refine W_seq ?_
  refine W_rs ?_
  refine sm rfl rfl ?_
  refine st (X.lenS rfl rfl Tryd.underlying9) rfl ?_
  refine st (X.lss rfl rfl) rfl ?_
  refine Wn ?_
  refine tN ?_
  refine W_if rfl (fun h9 => ?_) (fun h9 => ?_)
  · first | replace h9 := of_decide_eq_true h9 | replace h9 := of_decide_eq_false (notT h9) | replace h9 := notT h9 | skip
    refine W_rs ?_
    refine st (X.bld rfl (bman0 _)) rfl ?_
    refine ssBN rfl rfl hB2 siz26 rfl rfl (fun w2 hB_ hc_ => ?_)
    replace hB2 := hB_
    clear hB_
    replace hbw := bset hbw hc_ (by omega)
    have hz_w2 := hc_.size
    clear hc_
    refine sa rfl rfl ?_
    refine Wn ?_
    refine tN ?_
    refine W_ret (tR ?_)
    refine (rCT rfl rfl hB2 Tryd.underlying26 rfl siz26 rfl ⟨hbw, ?_⟩).1
    rw [show decodeM s = .error 10 by unfold decodeM; rw [if_pos (by omega)]]; rfl
  · first | replace h9 := of_decide_eq_false h9 | replace h9 := of_decide_eq_true (notF h9) | replace h9 := notF h9 | skip
    refine W_skip ?_
    refine tN ?_
    refine W_rs ?_
    refine sm rfl rfl ?_
    refine sm rfl rfl ?_
    refine st (X.lenS rfl rfl Tryd.underlying9) rfl ?_
    refine st (X.sub64 rfl rfl (by omega)) rfl ?_
    refine st (X.toS (j := s.length - 4) rfl rfl Tryd.underlying9 (by omega) (by omega)) rfl ?_
    rw [show s.take (s.length - 4) = b from hbd]
    refine sa rfl rfl ?_
    refine Wn ?_
    refine tN ?_
    refine W_seq ?_
    refine W_block ?_
    refine W_rs ?_
    refine sm rfl rfl ?_
    refine st (X.toS (j := 4) rfl rfl Tryd.underlying9 rfl (by omega)) rfl ?_
    refine st (X.neS rfl rfl) rfl ?_
    refine sa rfl rfl ?_
    refine Wn ?_
    refine tN ?_
    refine W_if rfl (fun h16 => ?_) (fun h16 => ?_)
    · first | replace h16 := of_decide_eq_true h16 | replace h16 := of_decide_eq_false (notT h16) | replace h16 := notT h16 | skip
      refine W_rs ?_
      refine st (X.bld rfl (bman0 _)) rfl ?_
      refine ssBN rfl rfl hB2 siz26 rfl rfl (fun w3 hB_ hc_ => ?_)
      replace hB2 := hB_
      clear hB_
      replace hbw := bset hbw hc_ (by omega)
      have hz_w3 := hc_.size
      clear hc_
      refine sa rfl rfl ?_
      refine Wn ?_
      refine tN ?_
      refine W_ret (bR (tR ?_))
      refine (rCT rfl rfl hB2 Tryd.underlying26 rfl siz26 rfl ⟨hbw, ?_⟩).1
      rw [show decodeM s = .error 14 by unfold decodeM; rw [if_neg (by omega), if_pos (show s.take 4 ≠ man1 from h16)]]; rfl
    · first | replace h16 := of_decide_eq_false h16 | replace h16 := of_decide_eq_true (notF h16) | replace h16 := notF h16 | skip
      refine W_drsN (fun W_ => Below w1.heap.size w1 W_) [0, 1, 2, 3, 4, 5, 6, 7, 8, 9] [true, true, true, true, true, false, true, false, true, true] (by kernel_rfl) (by kernel_rfl) (bdrew (Below.refl _ _)) ?_
      obtain ⟨w4, hw_⟩ : ∃ w4 : World, w4 = World.drew w1 := ⟨_, rfl⟩
      rw [← hw_]
      have hb : Below w1.heap.size w1 w4 := by rw [hw_]; exact bdrew (Below.refl _ _)
      clear hw_
      have hS := hb
      replace hbw := bthen hbw hb
      replace hB2 := hB2.bel hb
      have hz_w4 := hb.size
      clear hb
      refine oY rfl (fun W_ hW_ => (X.move rfl)) rfl ?_
      refine oY rfl (fun W_ hW_ => (X.move rfl)) rfl ?_
      refine oY rfl (fun W_ hW_ => (X.lenS rfl rfl Tryd.underlying9)) rfl ?_
      refine oY rfl (fun W_ hW_ => (X.fromS rfl rfl Tryd.underlying9 rfl (by omega))) rfl ?_
      refine oY rfl (fun W_ hW_ => (X.move rfl)) rfl ?_
      refine oL rfl (fun Q_ hQ_ hP_ => ?_)
      refine sc _ Tryd.func21 rfl (by kernel_rfl) rfl rfl ((Crc_any b _ (by omega)).mono ?_)
      rintro e_ w5 ⟨rfl, hb⟩
      refine cR ?_
      replace hS := bthen hS hb
      replace hbw := bthen hbw hb
      replace hB2 := hB2.bel hb
      have hz_w5 := hb.size
      clear hb
      refine Wn (hQ_ _ _ hS ?_)
      clear hQ_ hP_ Q_
      refine oY rfl (fun W_ hW_ => (X.convI rfl Tryd.underlying62 Tryd.underlying3 (w64 (by have := lt_u32 (Crc.crc b); omega)))) rfl ?_
      refine oL rfl (fun Q_ hQ_ hP_ => ?_)
      refine sc _ Tryd.func20 rfl (by kernel_rfl) rfl rfl ((four_any _ _).mono ?_)
      rintro e_ w6 ⟨rfl, hb⟩
      refine cR ?_
      replace hS := bthen hS hb
      replace hbw := bthen hbw hb
      replace hB2 := hB2.bel hb
      have hz_w6 := hb.size
      clear hb
      refine Wn (hQ_ _ _ hS ?_)
      clear hQ_ hP_ Q_
      refine oY rfl (fun W_ hW_ => (X.neS rfl rfl)) rfl ?_
      refine oY rfl (fun W_ hW_ => (X.assign rfl)) rfl ?_
      refine oN ?_
      refine nN ?_
      refine W_if rfl (fun h21 => ?_) (fun h21 => ?_)
      · first | replace h21 := of_decide_eq_true h21 | replace h21 := of_decide_eq_false (notT h21) | replace h21 := notT h21 | skip
        refine W_rs ?_
        refine st (X.bld rfl (bman0 _)) rfl ?_
        refine ssBN rfl rfl hB2 siz26 rfl rfl (fun w7 hB_ hc_ => ?_)
        replace hB2 := hB_
        clear hB_
        replace hbw := bset hbw hc_ (by omega)
        have hz_w7 := hc_.size
        clear hc_
        refine sa rfl rfl ?_
        refine Wn ?_
        refine tN ?_
        refine W_ret (bR (tR ?_))
        refine (rCT rfl rfl hB2 Tryd.underlying26 rfl siz26 rfl ⟨hbw, ?_⟩).1
        have hbe : b.length = s.length - 4 := by omega
        rw [hbe] at h21
        rw [show decodeM s = .error 13 by unfold decodeM; rw [if_neg (by omega), if_neg (by exact h16), hbd, if_pos h21]]; rfl
      · first | replace h21 := of_decide_eq_false h21 | replace h21 := of_decide_eq_true (notF h21) | replace h21 := notF h21 | skip
        refine W_skip ?_
        refine bN ?_
        refine tN ?_
        refine W_rs ?_
        have hbe : b.length = s.length - 4 := by omega
        rw [hbe] at h21
        have hs3 : s.drop (s.length - 4) = four (Crc.crc b).toNat := Classical.not_not.1 h21
        refine sm rfl rfl ?_
        refine st (X.fromS (i := 4) rfl rfl Tryd.underlying9 rfl (by omega)) rfl ?_
        refine sc _ Tryd.func22 rfl (by kernel_rfl) rfl rfl ((parts_any (b.drop 4) _ (by rw [List.length_drop]; omega) (by rw [List.length_drop]; omega)).mono ?_)
        rintro e_ w8 ⟨hb, hp⟩
        rw [hpp] at hp
        obtain ⟨a_, b_, vc, vs, rfl, ho1, ho2⟩ := hp
        refine cR ?_
        replace hbw := bthen hbw hb
        replace hB2 := hB2.bel hb
        have hz_p := hb.size
        clear hb
        refine sm rfl rfl ?_
        refine st (X.ext rfl rfl) rfl ?_
        refine st (X.ext rfl rfl) rfl ?_
        refine salA inf26 rfl (fun g5 w9 hB5 hg5 hb hl5 => ?_)
        replace hbw := bthen hbw hb
        replace hB2 := hB2.bel hb
        have hz_w9 := hb.size
        clear hb
        refine ssBN rfl rfl hB5 siz26 rfl (man_one ho1 ho2) (fun w10 hB_ hc_ => ?_)
        replace hB5 := hB_
        clear hB_
        replace hB2 := hB2.chg hc_ (by first | (show ¬ _ = _; omega) | (intro k_ hk_; simp [Value.ownBlock] at hk_; subst hk_; show ¬ _ = _; omega))
        replace hbw := bset hbw hc_ (by omega)
        have hz_w10 := hc_.size
        clear hc_
        refine sa rfl rfl ?_
        refine Wn ?_
        refine tN ?_
        refine W_seq ?_
        refine W_rs ?_
        refine sm rfl rfl ?_
        refine st (X.not rfl) rfl ?_
        refine sbY rfl (rfl) rfl ?_
        refine gN (g := 40) rfl rfl rfl rfl ?_
        refine gN (g := 40) rfl rfl rfl rfl ?_
        refine gN (g := 40) rfl rfl rfl rfl ?_
        refine st (X.pickT rfl rfl) rfl ?_
        refine Wn ?_
        refine tN ?_
        refine W_yes rfl (rfl) ?_
        refine W_rs ?_
        refine st (X.bld rfl (bman0 _)) rfl ?_
        refine ssBN rfl rfl hB2 siz26 rfl rfl (fun w11 hB_ hc_ => ?_)
        replace hB2 := hB_
        clear hB_
        replace hB5 := hB5.chg hc_ (by first | (show ¬ _ = _; omega) | (intro k_ hk_; simp [Value.ownBlock] at hk_; subst hk_; show ¬ _ = _; omega))
        replace hbw := bset hbw hc_ (by omega)
        have hz_w11 := hc_.size
        clear hc_
        refine sa rfl rfl ?_
        refine Wn ?_
        refine tN ?_
        refine W_ret (tR ?_)
        refine (rCT rfl rfl hB2 Tryd.underlying26 rfl siz26 rfl ⟨hbw, ?_⟩).1
        rw [show decodeM s = .error 12 by unfold decodeM; rw [if_neg (by omega), if_neg (by exact h16), hbd, if_neg (by exact fun h => h hs3), hpp]]; rfl
theorem decode_some (s : List UInt8) (m : Man) (w : World) (hT : UT w) (hs : s.length < 1000000) (hpp : partsP ((bodyOf s).drop 4) = some m) :
    Calls Tryd.prog 7 #[str s] w (DecPost w (decodeM s)) := by
  obtain ⟨b, hbd⟩ : ∃ b, bodyOf s = b := ⟨_, rfl⟩
  have hbl : b.length = s.length - 4 ∨ s.length < 17 := by
    rw [← hbd]; unfold bodyOf; rw [List.length_take]; omega
  rw [hbd] at hpp
  refine W_enter (args := [str s]) 47 Tryd.func7 rfl rfl rfl ?_
  refine W_sub [(0, str s)] ?_ ⟨rfl, trivial⟩
  have hbw := Below.refl w.heap.size w
  refine W_rs ?_
  refine salA inf26 rfl (fun g2 w1 hB2 hg2 hb hl2 => ?_)
  replace hbw := bthen hbw hb
  have hz_w1 := hb.size
  clear hb
  refine sa rfl rfl ?_
  refine Wn ?_
  refine tN ?_
  refine W_seq ?_
  refine W_rs ?_
  refine sm rfl rfl ?_
  refine st (X.lenS rfl rfl Tryd.underlying9) rfl ?_
  refine st (X.lss rfl rfl) rfl ?_
  refine Wn ?_
  refine tN ?_
  refine W_if rfl (fun h9 => ?_) (fun h9 => ?_)
  · first | replace h9 := of_decide_eq_true h9 | replace h9 := of_decide_eq_false (notT h9) | replace h9 := notT h9 | skip
    refine W_rs ?_
    refine st (X.bld rfl (bman0 _)) rfl ?_
    refine ssBN rfl rfl hB2 siz26 rfl rfl (fun w2 hB_ hc_ => ?_)
    replace hB2 := hB_
    clear hB_
    replace hbw := bset hbw hc_ (by omega)
    have hz_w2 := hc_.size
    clear hc_
    refine sa rfl rfl ?_
    refine Wn ?_
    refine tN ?_
    refine W_ret (tR ?_)
    refine (rCT rfl rfl hB2 Tryd.underlying26 rfl siz26 rfl ⟨hbw, ?_⟩).1
    rw [show decodeM s = .error 10 by unfold decodeM; rw [if_pos (by omega)]]; rfl
  · first | replace h9 := of_decide_eq_false h9 | replace h9 := of_decide_eq_true (notF h9) | replace h9 := notF h9 | skip
    refine W_skip ?_
    refine tN ?_
    refine W_rs ?_
    refine sm rfl rfl ?_
    refine sm rfl rfl ?_
    refine st (X.lenS rfl rfl Tryd.underlying9) rfl ?_
    refine st (X.sub64 rfl rfl (by omega)) rfl ?_
    refine st (X.toS (j := s.length - 4) rfl rfl Tryd.underlying9 (by omega) (by omega)) rfl ?_
    rw [show s.take (s.length - 4) = b from hbd]
    refine sa rfl rfl ?_
    refine Wn ?_
    refine tN ?_
    refine W_seq ?_
    refine W_block ?_
    refine W_rs ?_
    refine sm rfl rfl ?_
    refine st (X.toS (j := 4) rfl rfl Tryd.underlying9 rfl (by omega)) rfl ?_
    refine st (X.neS rfl rfl) rfl ?_
    refine sa rfl rfl ?_
    refine Wn ?_
    refine tN ?_
    refine W_if rfl (fun h16 => ?_) (fun h16 => ?_)
    · first | replace h16 := of_decide_eq_true h16 | replace h16 := of_decide_eq_false (notT h16) | replace h16 := notT h16 | skip
      refine W_rs ?_
      refine st (X.bld rfl (bman0 _)) rfl ?_
      refine ssBN rfl rfl hB2 siz26 rfl rfl (fun w3 hB_ hc_ => ?_)
      replace hB2 := hB_
      clear hB_
      replace hbw := bset hbw hc_ (by omega)
      have hz_w3 := hc_.size
      clear hc_
      refine sa rfl rfl ?_
      refine Wn ?_
      refine tN ?_
      refine W_ret (bR (tR ?_))
      refine (rCT rfl rfl hB2 Tryd.underlying26 rfl siz26 rfl ⟨hbw, ?_⟩).1
      rw [show decodeM s = .error 14 by unfold decodeM; rw [if_neg (by omega), if_pos (show s.take 4 ≠ man1 from h16)]]; rfl
    · first | replace h16 := of_decide_eq_false h16 | replace h16 := of_decide_eq_true (notF h16) | replace h16 := notF h16 | skip
      refine W_drsN (fun W_ => Below w1.heap.size w1 W_) [0, 1, 2, 3, 4, 5, 6, 7, 8, 9] [true, true, true, true, true, false, true, false, true, true] (by kernel_rfl) (by kernel_rfl) (bdrew (Below.refl _ _)) ?_
      obtain ⟨w4, hw_⟩ : ∃ w4 : World, w4 = World.drew w1 := ⟨_, rfl⟩
      rw [← hw_]
      have hb : Below w1.heap.size w1 w4 := by rw [hw_]; exact bdrew (Below.refl _ _)
      clear hw_
      have hS := hb
      replace hbw := bthen hbw hb
      replace hB2 := hB2.bel hb
      have hz_w4 := hb.size
      clear hb
      refine oY rfl (fun W_ hW_ => (X.move rfl)) rfl ?_
      refine oY rfl (fun W_ hW_ => (X.move rfl)) rfl ?_
      refine oY rfl (fun W_ hW_ => (X.lenS rfl rfl Tryd.underlying9)) rfl ?_
      refine oY rfl (fun W_ hW_ => (X.fromS rfl rfl Tryd.underlying9 rfl (by omega))) rfl ?_
      refine oY rfl (fun W_ hW_ => (X.move rfl)) rfl ?_
      refine oL rfl (fun Q_ hQ_ hP_ => ?_)
      refine sc _ Tryd.func21 rfl (by kernel_rfl) rfl rfl ((Crc_any b _ (by omega)).mono ?_)
      rintro e_ w5 ⟨rfl, hb⟩
      refine cR ?_
      replace hS := bthen hS hb
      replace hbw := bthen hbw hb
      replace hB2 := hB2.bel hb
      have hz_w5 := hb.size
      clear hb
      refine Wn (hQ_ _ _ hS ?_)
      clear hQ_ hP_ Q_
      refine oY rfl (fun W_ hW_ => (X.convI rfl Tryd.underlying62 Tryd.underlying3 (w64 (by have := lt_u32 (Crc.crc b); omega)))) rfl ?_
      refine oL rfl (fun Q_ hQ_ hP_ => ?_)
      refine sc _ Tryd.func20 rfl (by kernel_rfl) rfl rfl ((four_any _ _).mono ?_)
      rintro e_ w6 ⟨rfl, hb⟩
      refine cR ?_
      replace hS := bthen hS hb
      replace hbw := bthen hbw hb
      replace hB2 := hB2.bel hb
      have hz_w6 := hb.size
      clear hb
      refine Wn (hQ_ _ _ hS ?_)
      clear hQ_ hP_ Q_
      refine oY rfl (fun W_ hW_ => (X.neS rfl rfl)) rfl ?_
      refine oY rfl (fun W_ hW_ => (X.assign rfl)) rfl ?_
      refine oN ?_
      refine nN ?_
      refine W_if rfl (fun h21 => ?_) (fun h21 => ?_)
      · first | replace h21 := of_decide_eq_true h21 | replace h21 := of_decide_eq_false (notT h21) | replace h21 := notT h21 | skip
        refine W_rs ?_
        refine st (X.bld rfl (bman0 _)) rfl ?_
        refine ssBN rfl rfl hB2 siz26 rfl rfl (fun w7 hB_ hc_ => ?_)
        replace hB2 := hB_
        clear hB_
        replace hbw := bset hbw hc_ (by omega)
        have hz_w7 := hc_.size
        clear hc_
        refine sa rfl rfl ?_
        refine Wn ?_
        refine tN ?_
        refine W_ret (bR (tR ?_))
        refine (rCT rfl rfl hB2 Tryd.underlying26 rfl siz26 rfl ⟨hbw, ?_⟩).1
        have hbe : b.length = s.length - 4 := by omega
        rw [hbe] at h21
        rw [show decodeM s = .error 13 by unfold decodeM; rw [if_neg (by omega), if_neg (by exact h16), hbd, if_pos h21]]; rfl
      · first | replace h21 := of_decide_eq_false h21 | replace h21 := of_decide_eq_true (notF h21) | replace h21 := notF h21 | skip
        refine W_skip ?_
        refine bN ?_
        refine tN ?_
        refine W_rs ?_
        have hbe : b.length = s.length - 4 := by omega
        rw [hbe] at h21
        have hs3 : s.drop (s.length - 4) = four (Crc.crc b).toNat := Classical.not_not.1 h21
        refine sm rfl rfl ?_
        refine st (X.fromS (i := 4) rfl rfl Tryd.underlying9 rfl (by omega)) rfl ?_
        refine sc _ Tryd.func22 rfl (by kernel_rfl) rfl rfl ((parts_any (b.drop 4) _ (by rw [List.length_drop]; omega) (by rw [List.length_drop]; omega)).mono ?_)
        rintro e_ w8 ⟨hb, hp⟩
        rw [hpp] at hp
        obtain ⟨vc, vs, rfl, hMR⟩ := hp
        refine cR ?_
        replace hbw := bthen hbw hb
        replace hB2 := hB2.bel hb
        have hz_p := hb.size
        clear hb
        obtain ⟨ho1, ho2⟩ := hMR.one
        unfold manV
        refine sm rfl rfl ?_
        refine st (X.ext rfl rfl) rfl ?_
        refine st (X.ext rfl rfl) rfl ?_
        refine salA inf26 rfl (fun g5 w9 hB5 hg5 hb hl5 => ?_)
        have hpend := hb
        replace hbw := bthen hbw hb
        replace hB2 := hB2.bel hb
        have hz_w9 := hb.size
        clear hb
        refine ssBN rfl rfl hB5 siz26 rfl (man_one ho1 ho2) (fun w10 hB_ hc_ => ?_)
        replace hB5 := hB_
        clear hB_
        replace hpend := bset hpend hc_ (by omega)
        replace hB2 := hB2.chg hc_ (by first | (show ¬ _ = _; omega) | (intro k_ hk_; simp [Value.ownBlock] at hk_; subst hk_; show ¬ _ = _; omega))
        replace hbw := bset hbw hc_ (by omega)
        have hz_w10 := hc_.size
        clear hc_
        refine sa rfl rfl ?_
        refine Wn ?_
        refine tN ?_
        refine W_seq ?_
        refine W_rs ?_
        refine sm rfl rfl ?_
        refine st (X.not rfl) rfl ?_
        refine sbN rfl (rfl) rfl ?_
        refine gY (g := 40) rfl rfl rfl ?_
        refine st (X.ldBN rfl hB5 Tryd.underlying26 rfl siz26) rfl ?_
        refine gY (g := 40) rfl rfl rfl ?_
        replace hMR := hMR.bel hpend
        clear hpend
        refine sc _ Tryd.func16 rfl (by kernel_rfl) rfl rfl ((Check_any m _ vs _ hMR.cols hMR.strs (hT.bel hbw)).mono ?_)
        rintro e_ w11 ⟨rfl, hb⟩
        refine cR ?_
        have hpend := hb
        replace hbw := bthen hbw hb
        replace hB2 := hB2.bel hb
        replace hB5 := hB5.bel hb
        have hz_w11 := hb.size
        clear hb
        refine gY (g := 40) rfl rfl rfl ?_
        refine st (X.neq rfl rfl) rfl ?_
        refine st (X.pickF rfl rfl) rfl ?_
        refine Wn ?_
        refine tN ?_
        refine W_if rfl (fun h44 => ?_) (fun h44 => ?_)
        · first | replace h44 := of_decide_eq_true h44 | replace h44 := of_decide_eq_false (notT h44) | replace h44 := notT h44 | skip
          refine W_rs ?_
          refine st (X.bld rfl (bman0 _)) rfl ?_
          refine ssBN rfl rfl hB2 siz26 rfl rfl (fun w12 hB_ hc_ => ?_)
          replace hB2 := hB_
          clear hB_
          replace hB5 := hB5.chg hc_ (by first | (show ¬ _ = _; omega) | (intro k_ hk_; simp [Value.ownBlock] at hk_; subst hk_; show ¬ _ = _; omega))
          replace hbw := bset hbw hc_ (by omega)
          have hz_w12 := hc_.size
          clear hc_
          refine sa rfl rfl ?_
          refine Wn ?_
          refine tN ?_
          replace hMR := hMR.bel hpend
          clear hpend
          refine W_ret (tR ?_)
          refine (rCT rfl rfl hB2 Tryd.underlying26 rfl siz26 rfl ⟨hbw, ?_⟩).1
          rw [show decodeM s = .error 12 by unfold decodeM; rw [if_neg (by omega), if_neg (by exact h16), hbd, if_neg (by exact fun h => h hs3), hpp]; show (if _ then _ else _) = _; rw [if_neg h44]]; rfl
        · first | replace h44 := of_decide_eq_false h44 | replace h44 := of_decide_eq_true (notF h44) | replace h44 := notF h44 | skip
          refine W_skip ?_
          refine tN ?_
          refine W_rs ?_
          refine st (X.ldBN rfl hB5 Tryd.underlying26 rfl siz26) rfl ?_
          replace hMR := hMR.bel hpend
          clear hpend
          refine ssBN rfl rfl hB2 siz26 rfl (man_one ho1 ho2) (fun w13 hB_ hC => ?_)
          replace hMR := hMR.chgB hC hB2 (by decide) (by decide) (by decide)
          replace hbw := bset hbw hC (by omega)
          replace hB2 := hB_
          clear hB_ hC
          refine sa rfl rfl ?_
          refine Wn ?_
          refine tN ?_
          refine W_ret ?_
          refine (rCT rfl rfl hB2 Tryd.underlying26 rfl siz26 rfl ⟨hbw, ?_⟩).1
          rw [show decodeM s = .ok m by unfold decodeM; rw [if_neg (by omega), if_neg (by exact h16), hbd, if_neg (by exact fun h => h hs3), hpp]; show (if _ then _ else _) = _; rw [if_pos (Classical.not_not.1 h44)]]
          exact ⟨_, vs, rfl, hMR⟩
theorem Decode_any (s : List UInt8) (w : World) (hT : UT w) (hs : s.length < 1000000) : Calls Tryd.prog 7 #[str s] w (DecPost w (decodeM s)) := by
  cases h : partsP ((bodyOf s).drop 4) with
  | none => exact decode_none s w hs h
  | some m => exact decode_some s m w hT hs h
end Go.Proofs.YtnagmpnpgekhfaaDoor
