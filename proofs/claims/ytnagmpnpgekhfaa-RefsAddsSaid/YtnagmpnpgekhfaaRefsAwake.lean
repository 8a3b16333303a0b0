/- armariumlaw17.awake. -/
import Derived.Test.YtnagmpnpgekhfaaRefs5
namespace Go.Proofs.Ytnagmpnpgekhfaa
open Go.RowKit
def s1 : List UInt8 := 1 :: List.replicate 31 0
def s2 : List UInt8 := 2 :: List.replicate 31 0
theorem bsum1 (w : World) : (Instr.build 36 #[(0, .int .u8 1)]).run Try.prog w = .ok (.agg (s1.map bv).toArray) w := by kernel_rfl
theorem bsum2 (w : World) : (Instr.build 36 #[(0, .int .u8 2)]).run Try.prog w = .ok (.agg (s2.map bv).toArray) w := by kernel_rfl
def aw1 : List Chk := [⟨s1, 2⟩, ⟨s2, 1⟩]
def aw2 : List Chk := [⟨s1, -2⟩]
def aw3 : List Chk := [⟨s2, -2⟩]
theorem aw_1 : addM [] aw1 = (aw1, [], 0) := by decide +kernel
theorem aw_2 : addM aw1 aw2 = ([⟨s2, 1⟩], [s1], 0) := by decide +kernel
theorem aw_3 : addM [⟨s2, 1⟩] aw3 = ([⟨s2, 1⟩], [], 1) := by decide +kernel
theorem cnts_nil : Cnts [] := ⟨by simp [Srt], fun c hc => by simp at hc, fun c hc => by simp at hc⟩
theorem bsl2 (w : World) : (Instr.buildSlice 22 2 #[(0, .agg (Chk.cells ⟨s1, 2⟩).toArray), (1, .agg (Chk.cells ⟨s2, 1⟩).toArray)]).run Try.prog w = .ok (.slice (some ⟨w.heap.size, 0, none⟩) 2 2) (w.alloc (.cells (aw1.flatMap Chk.cells).toArray 57)) := by kernel_rfl
theorem X.eqSum {l : Env} {x y : Operand} {w : World} {t' ty : TypeId} {a b : List UInt8} (ha : a.length = 32) (hb : b.length = 32) (hx : ev l x = some (.agg (a.map bv).toArray)) (hy : ev l y = some (.agg (b.map bv).toArray)) : X Try.prog l (.binOp .eql 36 x y t') ty w (.bool (a == b)) w :=
  X.bin hx hy (fun c d => run_eqGuard_agg w .eql _ c d _ _ (by kernel_rfl)) (run_eql_sum a b ha hb w)
theorem awr {w : World} {g o c : Nat} (h : Reads w 32 (.slice (some ⟨g, o, none⟩) [s1].length c) [s1].length (keyCells [s1])) : w.rangeAt g (o + 0 * 32) (s1.map bv) := by
  have := h.range 0 (by decide)
  simpa [keyCells, s1] using this
set_option maxRecDepth 20000 in
set_option maxHeartbeats 1000000 in
theorem awake_any (w : World) : Calls Try.prog 18 #[] w fun e w' => e = .returned (.bool true) ∧ Below w.heap.size w w' := by
  have l1 : s1.length = 32 := rfl
  have l2 : s2.length = 32 := rfl
  refine W_enter (args := []) 74 Try.func18 rfl rfl rfl ?_
  have hbw := Below.refl w.heap.size w
  refine W_rs ?_
  refine sa rfl rfl ?_
  refine Wn ?_
  refine tN ?_
  refine W_rs ?_
  refine sc _ Try.func25 rfl (by kernel_rfl) rfl rfl ((New_any _).mono ?_)
  rintro e_ w1 ⟨g, b, rfl, hK, hgg, hgb, hgne, hb⟩
  refine cR ?_
  replace hbw := bthen hbw hb
  have hz_w1 := hb.size
  clear hb
  have hkl := hK.lt
  refine sa rfl rfl ?_
  refine Wn ?_
  refine tN ?_
  refine W_seq ?_
  refine W_rs ?_
  refine sm rfl rfl ?_
  refine st (X.nilP rfl) rfl ?_
  refine Wn ?_
  refine tN ?_
  refine W_no rfl (rfl) ?_
  refine W_skip ?_
  refine tN ?_
  refine W_rs ?_
  refine st (X.bld rfl (bsum1 _)) rfl ?_
  refine salA inf36 rfl (fun g2 w2 hB2 hg2 hb hl2 => ?_)
  have hpend := hb
  replace hbw := bthen hbw hb
  have hz_w2 := hb.size
  clear hb
  refine ssBN rfl rfl hB2 siz36 rfl rfl (fun w3 hB_ hc_ => ?_)
  replace hB2 := hB_
  clear hB_
  replace hpend := bset hpend hc_ (by omega)
  replace hbw := bset hbw hc_ (by omega)
  have hz_w3 := hc_.size
  clear hc_
  refine Wn ?_
  refine tN ?_
  refine W_rs ?_
  refine st (X.bld rfl (bsum2 _)) rfl ?_
  refine salA inf36 rfl (fun g3 w4 hB3 hg3 hb hl3 => ?_)
  replace hpend := bthen hpend hb
  replace hbw := bthen hbw hb
  replace hB2 := hB2.bel hb
  have hz_w4 := hb.size
  clear hb
  refine ssBN rfl rfl hB3 siz36 rfl rfl (fun w5 hB_ hc_ => ?_)
  replace hB3 := hB_
  clear hB_
  replace hpend := bset hpend hc_ (by omega)
  replace hB2 := hB2.chg hc_ (by first | (show ¬ _ = _; omega) | (intro k_ hk_; simp [Value.ownBlock] at hk_; subst hk_; show ¬ _ = _; omega))
  replace hbw := bset hbw hc_ (by omega)
  have hz_w5 := hc_.size
  clear hc_
  refine Wn ?_
  refine tN ?_
  refine W_rs ?_
  refine sm rfl rfl ?_
  refine st (X.ldBN rfl hB2 Try.underlying36 rfl siz36) rfl ?_
  refine st (X.bld rfl (bdelta s1 l1 2 _)) rfl ?_
  refine st (X.ldBN rfl hB3 Try.underlying36 rfl siz36) rfl ?_
  refine st (X.bld rfl (bdelta s2 l2 1 _)) rfl ?_
  replace hK := hK.bel hpend
  clear hpend
  refine sbs (ps := [(0, .tmp 18), (1, .tmp 20)]) 33 rfl (bsl2 _) (by simp [maxLen]) rfl rfl (fun g21 w6 hR21 hg21 hb => ?_)
  replace hbw := bthen hbw hb
  replace hK := hK.bel hb
  replace hB2 := hB2.bel hb
  replace hB3 := hB3.bel hb
  have hz21 := hb.size
  clear hb
  refine sc _ Try.func26 rfl (by kernel_rfl) rfl rfl ((Add_any g b [] _ aw1 _ hK cnts_nil ⟨hR21.reads, by intro c hc; simp [aw1] at hc; rcases hc with rfl | rfl <;> rfl⟩).mono ?_)
  rintro e_ w7 hadd
  rw [aw_1] at hadd
  obtain ⟨v1, rfl, hG1, hO1, hC1, hch⟩ := hadd
  refine cR ?_
  replace hK := hC1
  replace hbw := bset hbw hch (by omega)
  replace hB2 := hB2.chg hch (by show ¬ _ = _; omega)
  replace hB3 := hB3.chg hch (by show ¬ _ = _; omega)
  have hz66 := hch.size
  clear hch hC1 hG1 hR21
  refine sm rfl rfl ?_
  refine st (X.ext rfl rfl) rfl ?_
  refine st (X.ext rfl rfl) rfl ?_
  refine sa rfl rfl ?_
  refine sa rfl rfl ?_
  refine Wn ?_
  refine tN ?_
  refine W_rs ?_
  refine sm rfl rfl ?_
  refine st (X.ldBN rfl hB2 Try.underlying36 rfl siz36) rfl ?_
  refine st (X.bld rfl (bdelta s1 l1 (-2) _)) rfl ?_
  refine sbs1 rfl Try.underlying22 inf57 (Chk.size (c := ⟨s1, -2⟩) l1) rfl (by decide) (by decide) rfl (fun g29 w8 hR29 hg29 hb => ?_)
  replace hbw := bthen hbw hb
  replace hK := hK.bel hb
  replace hB2 := hB2.bel hb
  replace hB3 := hB3.bel hb
  have hz29 := hb.size
  clear hb
  refine sc _ Try.func26 rfl (by kernel_rfl) rfl rfl ((Add_any g b aw1 _ aw2 _ hK ⟨by decide +kernel, by decide +kernel, by decide +kernel⟩ ⟨hR29.reads, by decide +kernel⟩).mono ?_)
  rintro e_ w9 hadd
  rw [aw_2] at hadd
  obtain ⟨v2, rfl, hG2, hO2, hC2, hch⟩ := hadd
  refine cR ?_
  replace hK := hC2
  replace hbw := bset hbw hch (by omega)
  replace hB2 := hB2.chg hch (by show ¬ _ = _; omega)
  replace hB3 := hB3.chg hch (by show ¬ _ = _; omega)
  have hz74 := hch.size
  clear hch hC2 hR29
  refine sm rfl rfl ?_
  refine st (X.ext rfl rfl) rfl ?_
  refine st (X.ext rfl rfl) rfl ?_
  refine sa rfl rfl ?_
  refine sa rfl rfl ?_
  refine Wn ?_
  refine tN ?_
  refine W_rs ?_
  refine sm rfl rfl ?_
  refine st (X.ldBN rfl hB3 Try.underlying36 rfl siz36) rfl ?_
  refine st (X.bld rfl (bdelta s2 l2 (-2) _)) rfl ?_
  refine sbs1 rfl Try.underlying22 inf57 (Chk.size (c := ⟨s2, -2⟩) l2) rfl (by decide) (by decide) rfl (fun g37 w10 hR37 hg37 hb => ?_)
  replace hbw := bthen hbw hb
  replace hK := hK.bel hb
  replace hB2 := hB2.bel hb
  replace hB3 := hB3.bel hb
  replace hG2 := hG2.bel hb
  have hz37 := hb.size
  clear hb
  refine sc _ Try.func26 rfl (by kernel_rfl) rfl rfl ((Add_any g b [⟨s2, 1⟩] _ aw3 _ hK ⟨by decide +kernel, by decide +kernel, by decide +kernel⟩ ⟨hR37.reads, by decide +kernel⟩).mono ?_)
  rintro e_ w11 hadd
  rw [aw_3] at hadd
  obtain ⟨v3, rfl, hG3, hO3, hC3, hch⟩ := hadd
  refine cR ?_
  obtain ⟨m_, hM_, _⟩ := hK.map
  replace hG2 := hG2.chg hch (hG2.neMap hM_)
  replace hK := hC3
  replace hbw := bset hbw hch (by omega)
  replace hB2 := hB2.chg hch (by show ¬ _ = _; omega)
  replace hB3 := hB3.chg hch (by show ¬ _ = _; omega)
  have hz84 := hch.size
  clear hch hC3 hR37 hG3 hM_
  obtain ⟨a2, c2, rfl, hn2, hcc2⟩ := hG2.shape
  obtain ⟨gq, oq, cq, hvq, hgq⟩ := hG2.reads.some_ (by decide)
  injection hvq with e1 _ e3
  subst e1 e3
  refine sm rfl rfl ?_
  refine st (X.ext rfl rfl) rfl ?_
  refine st (X.ext rfl rfl) rfl ?_
  refine sa rfl rfl ?_
  refine sa rfl rfl ?_
  refine Wn ?_
  refine tN ?_
  refine W_drsN (fun W_ => ∃ x2 x3, x2 = g2 ∧ x3 = g3 ∧ Blk W_ x2 36 (s1.map bv).toArray ∧ Blk W_ x3 36 (s2.map bv).toArray ∧ W_.rangeAt gq (oq + 0 * 32) (s1.map bv)) [0, 1, 2, 3, 4, 5, 6, 7, 8, 9, 10, 11, 12, 13, 14, 15, 16, 17, 18, 19, 20, 21, 22, 23, 24, 25, 26, 27, 28, 29, 30, 31, 32, 33] [true, true, true, true, true, true, true, true, true, true, true, true, true, true, true, true, true, true, true, true, true, true, true, true, true, false, true, true, true, false, false, true, true, true] (by kernel_rfl) (by kernel_rfl) (⟨_, _, rfl, rfl, hB2.drew, hB3.drew, awr (hG2.bel (bdrew (Below.refl _ _))).reads⟩) ?_
  obtain ⟨w12, hw_⟩ : ∃ w12 : World, w12 = World.drew w11 := ⟨_, rfl⟩
  rw [← hw_]
  have hb : Below w11.heap.size w11 w12 := by rw [hw_]; exact bdrew (Below.refl _ _)
  clear hw_
  have hS := hb
  have hpend := hb
  replace hbw := bthen hbw hb
  replace hB2 := hB2.bel hb
  replace hB3 := hB3.bel hb
  have hz_w12 := hb.size
  clear hb
  refine oY rfl (fun W_ hW_ => (X.move rfl)) rfl ?_
  refine oY rfl (fun W_ hW_ => (X.eql rfl rfl)) rfl ?_
  refine oY rfl (fun W_ hW_ => (X.mvB (c := true) rfl (rfl))) rfl ?_
  refine oYg (g := 43) rfl rfl rfl rfl (fun W_ hW_ => (X.move rfl)) rfl ?_
  refine oYg (g := 43) rfl rfl rfl rfl (fun W_ hW_ => (X.eql rfl rfl)) rfl ?_
  refine oY rfl (fun W_ hW_ => (X.pickT rfl rfl)) rfl ?_
  refine oY rfl (fun W_ hW_ => (X.mvB (c := true) rfl (rfl))) rfl ?_
  refine oYg (g := 47) rfl rfl rfl rfl (fun W_ hW_ => (X.move rfl)) rfl ?_
  refine oYg (g := 47) rfl rfl rfl rfl (fun W_ hW_ => (X.lenL rfl rfl Try.underlying39)) rfl ?_
  refine oYg (g := 47) rfl rfl rfl rfl (fun W_ hW_ => (X.eql rfl rfl)) rfl ?_
  refine oY rfl (fun W_ hW_ => (X.pickT rfl rfl)) rfl ?_
  refine oY rfl (fun W_ hW_ => (X.mvB (c := true) rfl (rfl))) rfl ?_
  refine oYg (g := 52) rfl rfl rfl rfl (fun W_ hW_ => (X.move rfl)) rfl ?_
  refine oYg (g := 52) rfl rfl rfl rfl (fun W_ hW_ => (X.idxA (j := 0) rfl rfl Try.underlying39 siz36 rfl (by decide))) rfl ?_
  refine oYg (g := 52) rfl rfl rfl rfl (fun W_ hW_ => (X.ldN (cs := s1.map bv) rfl Try.underlying36 rfl siz36 (by obtain ⟨x2, x3, rfl, rfl, h1, h2, h3⟩ := hW_; exact h3))) rfl ?_
  refine oYg (g := 52) rfl rfl rfl rfl (fun W_ hW_ => (X.ldBN (cs := (s1.map bv).toArray) rfl (by obtain ⟨x2, x3, rfl, rfl, h1, h2, h3⟩ := hW_; exact h1) Try.underlying36 rfl siz36)) rfl ?_
  refine oYg (g := 52) rfl rfl rfl rfl (fun W_ hW_ => (X.eqSum l1 l1 rfl rfl)) rfl ?_
  refine oY rfl (fun W_ hW_ => (X.pickT rfl rfl)) rfl ?_
  refine oY rfl (fun W_ hW_ => (X.mvB (c := true) rfl (by decide))) rfl ?_
  refine oYg (g := 59) rfl rfl rfl rfl (fun W_ hW_ => (X.move rfl)) rfl ?_
  refine oYg (g := 59) rfl rfl rfl rfl (fun W_ hW_ => (X.eql rfl rfl)) rfl ?_
  refine oY rfl (fun W_ hW_ => (X.pickT rfl rfl)) rfl ?_
  refine oY rfl (fun W_ hW_ => (X.mvB (c := true) rfl (rfl))) rfl ?_
  refine oYg (g := 63) rfl rfl rfl rfl (fun W_ hW_ => (X.move rfl)) rfl ?_
  refine oYg (g := 63) rfl rfl rfl rfl (fun W_ hW_ => (X.ldBN (cs := (s2.map bv).toArray) rfl (by obtain ⟨x2, x3, rfl, rfl, h1, h2, h3⟩ := hW_; exact h2) Try.underlying36 rfl siz36)) rfl ?_
  refine oL rfl (fun Q_ hQ_ hP_ => ?_)
  refine gY (g := 63) rfl rfl rfl ?_
  replace hK := hK.bel hpend
  replace hG2 := hG2.bel hpend
  clear hpend
  refine sc _ Try.func35 rfl (by kernel_rfl) rfl rfl ((Get_any g b [⟨s2, 1⟩] ⟨s2, l2⟩ _ hK).mono ?_)
  rintro e_ w13 ⟨rfl, hb⟩
  refine cR ?_
  have hpend := hb
  replace hbw := bthen hbw hb
  replace hB2 := hB2.bel hb
  replace hB3 := hB3.bel hb
  have hz_w13 := hb.size
  clear hb
  replace hK := hK.bel hpend
  replace hG2 := hG2.bel hpend
  clear hpend
  refine Wn (hQ_ _ _ (⟨_, _, rfl, rfl, hB2, hB3, awr hG2.reads⟩) ?_)
  clear hQ_ hP_ Q_
  refine oYg (g := 63) rfl rfl rfl rfl (fun W_ hW_ => (X.eql rfl rfl)) rfl ?_
  refine oY rfl (fun W_ hW_ => (X.pickT rfl rfl)) rfl ?_
  refine oY rfl (fun W_ hW_ => (X.mvB (c := true) rfl (decide_eq_true (show tot s2 [⟨s2, 1⟩] = 1 by simp [tot])))) rfl ?_
  refine oL rfl (fun Q_ hQ_ hP_ => ?_)
  refine gY (g := 69) rfl rfl rfl ?_
  refine sc _ Try.func25 rfl (by kernel_rfl) rfl rfl ((New_any _).mono ?_)
  rintro e_ w14 ⟨g4, b4, rfl, hK4, hgg4, hgb4, hgne4, hb⟩
  refine cR ?_
  have hpend := hb
  replace hbw := bthen hbw hb
  replace hB2 := hB2.bel hb
  replace hB3 := hB3.bel hb
  have hz_w14 := hb.size
  clear hb
  replace hK := hK.bel hpend
  replace hG2 := hG2.bel hpend
  clear hpend
  refine Wn (hQ_ _ _ (⟨_, _, rfl, rfl, hB2, hB3, awr hG2.reads⟩) ?_)
  clear hQ_ hP_ Q_
  refine oL rfl (fun Q_ hQ_ hP_ => ?_)
  refine gY (g := 69) rfl rfl rfl ?_
  refine sc _ Try.func32 rfl (by kernel_rfl) rfl rfl ((Encode_cnt g4 b4 [] _ hK4 (fun c hc => by simp at hc) (by simp)).mono ?_)
  rintro e_ w15 ⟨rfl, hb⟩
  refine cR ?_
  have hpend := hb
  replace hbw := bthen hbw hb
  replace hB2 := hB2.bel hb
  replace hB3 := hB3.bel hb
  have hz_w15 := hb.size
  clear hb
  replace hK := hK.bel hpend
  replace hG2 := hG2.bel hpend
  clear hpend
  refine Wn (hQ_ _ _ (⟨_, _, rfl, rfl, hB2, hB3, awr hG2.reads⟩) ?_)
  clear hQ_ hP_ Q_
  refine oYg (g := 69) rfl rfl rfl rfl (fun W_ hW_ => (X.eqS rfl (show _ = some (str [0, 0, 0, 0]) from rfl))) rfl ?_
  refine oY rfl (fun W_ hW_ => (X.pickT rfl rfl)) rfl ?_
  refine oY rfl (fun W_ hW_ => (X.assign rfl)) rfl ?_
  refine oN ?_
  refine nN ?_
  refine W_ret ?_
  exact (rT rfl rfl ⟨rfl, hbw⟩).1
end Go.Proofs.Ytnagmpnpgekhfaa
