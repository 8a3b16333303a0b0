/- armariumref19.Decode. -/
import Derived.Test.YtnagmpnpgekhfaaDoorRefDecPlain
import Derived.Test.YtnagmpnpgekhfaaDoorTree
namespace Go.Proofs.YtnagmpnpgekhfaaDoor
open Go.RowKit
theorem parts_ix (s : List UInt8) (n : Nat) (h : 13 ≤ n) : partsP ((s.take n).drop 4) = (match colsP (s.getD 12 0).toNat ((s.take n).drop 13) with | some (cs, ls, []) => some ⟨num (s.drop 4), num (s.drop 8), cs, ls⟩ | _ => none) := by
  unfold partsP
  rw [List.drop_drop, List.drop_drop, num_cut s n 4 (by omega), num_cut s n (4 + 4) (by omega)]
  have : ((s.take n).drop 4).getD 8 0 = s.getD 12 0 := by
    simp [List.getD, List.getElem?_drop, List.getElem?_take_of_lt (show 12 < n by omega)]
  rw [this]
  rfl
def RefPost (w : World) (r : Except Int Man) (e : Ending) (w' : World) : Prop :=
  Below w.heap.size w w' ∧ match r with
  | .ok m => ∃ vc vr, e = .returned (.tuple #[.agg #[.int .i64 m.id, .int .i64 m.rows, vc, vr], .int .i64 0]) ∧ ColsAt w' vc m.cols ∧ RStrsAt w' vr m.strs
  | .error k => e = .returned (.tuple #[zeroMan, .int .i64 k])
theorem brman0 (w : World) : (Instr.build 32 #[]).run Tryd.prog w = .ok (.agg #[.int .i64 0, .int .i64 0, .slice none 0 0, .slice none 0 0]) w := by kernel_rfl
theorem brman2 (a b : Int) (w : World) : (Instr.build 32 #[(0, .int .i64 a), (1, .int .i64 b)]).run Tryd.prog w = .ok (.agg #[.int .i64 a, .int .i64 b, .slice none 0 0, .slice none 0 0]) w := by kernel_rfl
theorem bcol3 (s : List UInt8) (a : Int) (c : Bool) (w : World) : (Instr.build 60 #[(0, str s), (1, .int .i64 a), (2, .bool c)]).run Tryd.prog w = .ok (.agg #[str s, .int .i64 a, .bool c]) w := by kernel_rfl
theorem dec_err12 {s : List UInt8} (h17 : ¬ s.length < 17) (h4 : s.take 4 = man1) (h3 : s.drop (s.length - 4) = four (Crc.crc (bodyOf s)).toNat) (hp : partsP ((bodyOf s).drop 4) = none ∨ ∃ m, partsP ((bodyOf s).drop 4) = some m ∧ manErr colsOk m ≠ 0) : decodeM s = .error 12 := by
  unfold decodeM
  rw [if_neg h17, if_neg (fun h => h h4), if_neg (fun h => h h3)]
  rcases hp with hp | ⟨m, hp, he⟩
  · rw [hp]
  · rw [hp]; simp only; rw [if_neg he]
theorem sum_iff {d : List UInt8} {c : UInt32} (h : d.length = 4) : ((num d : Nat) : Int) = (c.toNat : Int) ↔ d = four c.toNat := by
  have e : four (num d : Nat) = d := by
    have := four_num d (by omega)
    rwa [List.drop_of_length_le (by omega), List.append_nil] at this
  constructor
  · intro hh; rw [← hh, e]
  · intro hh
    have := four_inj (num_lt d) (by have := c.toNat_lt; omega) (e.trans hh)
    omega
/-- a column more -/
theorem colsP_next {M i : Nat} {d : List UInt8} {cs : List Col} {ls : List (List Chk)} {q r : List UInt8} {c : Col} {l : List Chk} (hi : i < M)
    (hp : colsP M d = (match colsP (M - i) q with | some (cs', ls', r) => some (cs ++ cs', ls ++ ls', r) | none => none)) (hc : colP q = some (c, l, r)) :
    colsP M d = (match colsP (M - (i + 1)) r with | some (cs', ls', r) => some ((cs ++ [c]) ++ cs', (ls ++ [l]) ++ ls', r) | none => none) := by
  rw [hp, show M - i = (M - (i + 1)) + 1 by omega, colsP, hc]
  simp only
  cases colsP (M - (i + 1)) r with
  | none => rfl
  | some x => obtain ⟨a, b, c⟩ := x; simp
theorem colsP_stop {M i : Nat} {d : List UInt8} {cs : List Col} {ls : List (List Chk)} {q : List UInt8} (hi : i < M)
    (hp : colsP M d = (match colsP (M - i) q with | some (cs', ls', r) => some (cs ++ cs', ls ++ ls', r) | none => none)) (hc : colP q = none) : colsP M d = none := by
  rw [hp, show M - i = (M - (i + 1)) + 1 by omega, colsP, hc]
theorem colsP_end {M i : Nat} {d : List UInt8} {cs : List Col} {ls : List (List Chk)} {q : List UInt8} (hi : i = M)
    (hp : colsP M d = (match colsP (M - i) q with | some (cs', ls', r) => some (cs ++ cs', ls ++ ls', r) | none => none)) : colsP M d = some (cs, ls, q) := by
  rw [hp, hi, Nat.sub_self, colsP]
  simp
set_option maxRecDepth 10000 in
set_option maxHeartbeats 1000000 in
theorem RefDecode_any (s : List UInt8) (w : World) (hT : UT w) (hs : s.length < 1000000) : Calls Tryd.prog 8 #[str s] w (RefPost w (decodeM s)) := by
  obtain ⟨n, hn⟩ : ∃ n : Nat, n = s.length - 4 := ⟨_, rfl⟩
  refine W_enter (args := [str s]) 143 Tryd.func8 rfl rfl rfl ?_
  refine W_sub [(0, str s)] ?_ ⟨rfl, trivial⟩
  have hbw := Below.refl w.heap.size w
  refine W_rs ?_
  refine salA inf32 rfl (fun g2 w1 hB2 hg2 hb hl2 => ?_)
  replace hbw := bthen hbw hb
  have hz_w1 := hb.size
  clear hb
  refine sa rfl rfl ?_
  refine Wn ?_
  refine tN ?_
  refine W_seq ?_
  refine W_rs ?_
  refine sm rfl rfl ?_
  refine st (X.lenS rfl rfl Tryd.underlying9) rfl ?_
  refine st (X.lss rfl rfl) rfl ?_
  refine Wn ?_
  refine tN ?_
  refine W_if rfl (fun h14 => ?_) (fun h14 => ?_)
  · first | replace h14 := of_decide_eq_true h14 | replace h14 := of_decide_eq_false (notT h14) | replace h14 := notT h14 | skip
    refine W_rs ?_
    refine st (X.bld rfl (brman0 _)) rfl ?_
    refine ssBN rfl rfl hB2 siz32 rfl rfl (fun w2 hB_ hc_ => ?_)
    replace hB2 := hB_
    clear hB_
    replace hbw := bset hbw hc_ (by omega)
    have hz_w2 := hc_.size
    clear hc_
    refine sa rfl rfl ?_
    refine Wn ?_
    refine tN ?_
    refine W_ret (tR ?_)
    refine (rCT rfl rfl hB2 Tryd.underlying32 rfl siz32 rfl ⟨hbw, ?_⟩).1
    rw [show decodeM s = .error 10 by unfold decodeM; rw [if_pos (by omega)]]; rfl
  · first | replace h14 := of_decide_eq_false h14 | replace h14 := of_decide_eq_true (notF h14) | replace h14 := notF h14 | skip
    refine W_skip ?_
    refine tN ?_
    refine W_seq ?_
    refine W_rs ?_
    refine sm rfl rfl ?_
    refine st (X.toS (j := 4) rfl rfl Tryd.underlying9 rfl (by omega)) rfl ?_
    refine st (X.neS rfl rfl) rfl ?_
    refine Wn ?_
    refine tN ?_
    refine W_if rfl (fun h18 => ?_) (fun h18 => ?_)
    · first | replace h18 := of_decide_eq_true h18 | replace h18 := of_decide_eq_false (notT h18) | replace h18 := notT h18 | skip
      refine W_rs ?_
      refine st (X.bld rfl (brman0 _)) rfl ?_
      refine ssBN rfl rfl hB2 siz32 rfl rfl (fun w3 hB_ hc_ => ?_)
      replace hB2 := hB_
      clear hB_
      replace hbw := bset hbw hc_ (by omega)
      have hz_w3 := hc_.size
      clear hc_
      refine sa rfl rfl ?_
      refine Wn ?_
      refine tN ?_
      refine W_ret (tR ?_)
      refine (rCT rfl rfl hB2 Tryd.underlying32 rfl siz32 rfl ⟨hbw, ?_⟩).1
      rw [show decodeM s = .error 14 by unfold decodeM; rw [if_neg (by omega), if_pos (show s.take 4 ≠ man1 from h18)]]; rfl
    · first | replace h18 := of_decide_eq_false h18 | replace h18 := of_decide_eq_true (notF h18) | replace h18 := notF h18 | skip
      have h4 : s.take 4 = man1 := Classical.not_not.1 h18
      refine W_skip ?_
      refine tN ?_
      refine W_rs ?_
      refine sm rfl rfl ?_
      refine st (X.lenS rfl rfl Tryd.underlying9) rfl ?_
      refine st (X.sub rfl rfl (show IntKind.i64.wrap ((s.length : Int) - 4) = (n : Int) by rw [w64 (by omega)]; omega)) rfl ?_
      refine sa rfl rfl ?_
      refine Wn ?_
      refine tN ?_
      refine W_seq ?_
      refine W_drsN (fun _ => True) [0, 1, 3, 4, 5, 2, 6, 7, 8] [true, true, true, true, true, false, false, true, true] (by kernel_rfl) (by kernel_rfl) (trivial) ?_
      obtain ⟨w4, hw_⟩ : ∃ w4 : World, w4 = World.drew w1 := ⟨_, rfl⟩
      rw [← hw_]
      have hb : Below w1.heap.size w1 w4 := by rw [hw_]; exact bdrew (Below.refl _ _)
      clear hw_
      have hS : True := trivial
      replace hbw := bthen hbw hb
      replace hB2 := hB2.bel hb
      have hz_w4 := hb.size
      clear hb
      refine oY rfl (fun W_ hW_ => (X.move rfl)) rfl ?_
      refine oY rfl (fun W_ hW_ => (X.move rfl)) rfl ?_
      refine oY rfl (fun W_ hW_ => (X.move rfl)) rfl ?_
      refine oY rfl (fun W_ hW_ => (X.move rfl)) rfl ?_
      refine oY rfl (fun W_ hW_ => (X.toS (j := n) rfl rfl Tryd.underlying9 rfl (by omega))) rfl ?_
      refine oL rfl (fun Q_ hQ_ hP_ => ?_)
      refine sc _ Tryd.func23 rfl (by kernel_rfl) rfl rfl ((Of_any s n _ (by omega) hs).mono ?_)
      rintro e_ w5 ⟨rfl, hb⟩
      refine cR ?_
      replace hbw := bthen hbw hb
      replace hB2 := hB2.bel hb
      have hz_w5 := hb.size
      clear hb
      refine Wn (hQ_ _ _ trivial ?_)
      clear hQ_ hP_ Q_
      refine oL rfl (fun Q_ hQ_ hP_ => ?_)
      refine sc _ Tryd.func24 rfl (by kernel_rfl) rfl rfl ((refCrc_any (s.take n) _ (by rw [List.length_take]; omega)).mono ?_)
      rintro e_ w_ ⟨rfl, rfl⟩
      refine cR ?_
      refine Wn (hQ_ _ _ trivial ?_)
      clear hQ_ hP_ Q_
      refine oY rfl (fun W_ hW_ => (X.convI rfl Tryd.underlying62 Tryd.underlying3 (w64 (by have := lt_u32 (Crc.crc (s.take n)); omega)))) rfl ?_
      refine oY rfl (fun W_ hW_ => (X.neq rfl rfl)) rfl ?_
      refine oN ?_
      refine nN ?_
      refine W_if rfl (fun h31 => ?_) (fun h31 => ?_)
      · first | replace h31 := of_decide_eq_true h31 | replace h31 := of_decide_eq_false (notT h31) | replace h31 := notT h31 | skip
        refine W_rs ?_
        refine st (X.bld rfl (brman0 _)) rfl ?_
        refine ssBN rfl rfl hB2 siz32 rfl rfl (fun w6 hB_ hc_ => ?_)
        replace hB2 := hB_
        clear hB_
        replace hbw := bset hbw hc_ (by omega)
        have hz_w6 := hc_.size
        clear hc_
        refine sa rfl rfl ?_
        refine Wn ?_
        refine tN ?_
        refine W_ret (tR ?_)
        have hd4 : (s.drop n).length = 4 := by rw [List.length_drop]; omega
        refine (rCT rfl rfl hB2 Tryd.underlying32 rfl siz32 rfl ⟨hbw, ?_⟩).1
        rw [show decodeM s = .error 13 by unfold decodeM bodyOf; rw [if_neg (by omega), if_neg (fun h => h h4), ← hn, if_pos (fun h => h31 ((sum_iff hd4).2 h))]]; rfl
      · first | replace h31 := of_decide_eq_false h31 | replace h31 := of_decide_eq_true (notF h31) | replace h31 := notF h31 | skip
        have hd4 : (s.drop n).length = 4 := by rw [List.length_drop]; omega
        have h3 : s.drop (s.length - 4) = four (Crc.crc (bodyOf s)).toNat := by unfold bodyOf; rw [← hn]; exact (sum_iff hd4).1 (by omega)
        have hno : ∀ r, colsP (s.getD 12 0).toNat ((s.take n).drop 13) = r → (∀ cs ls, r ≠ some (cs, ls, [])) → decodeM s = .error 12 := fun r hr hne => dec_err12 (by omega) h4 h3 (.inl (by unfold bodyOf; rw [← hn, parts_ix s n (by omega), hr]; cases r with | none => rfl | some x => (obtain ⟨a, b, c⟩ := x; cases c with | nil => exact absurd rfl (hne a b) | cons y z => rfl)))
        refine W_skip ?_
        refine tN ?_
        refine W_rs ?_
        refine sm rfl rfl ?_
        refine sc _ Tryd.func23 rfl (by kernel_rfl) rfl rfl ((Of_any s 4 _ (by omega) hs).mono ?_)
        rintro e_ w7 ⟨rfl, hb⟩
        refine cR ?_
        replace hbw := bthen hbw hb
        replace hB2 := hB2.bel hb
        have hz_w7 := hb.size
        clear hb
        refine sm rfl rfl ?_
        refine sc _ Tryd.func23 rfl (by kernel_rfl) rfl rfl ((Of_any s 8 _ (by omega) hs).mono ?_)
        rintro e_ w8 ⟨rfl, hb⟩
        refine cR ?_
        replace hbw := bthen hbw hb
        replace hB2 := hB2.bel hb
        have hz_w8 := hb.size
        clear hb
        refine st (X.bld rfl (brman2 _ _ _)) rfl ?_
        refine salA inf32 rfl (fun g5 w9 hB5 hg5 hb hl5 => ?_)
        replace hbw := bthen hbw hb
        replace hB2 := hB2.bel hb
        have hz_w9 := hb.size
        clear hb
        refine ssBN rfl rfl hB5 siz32 rfl rfl (fun w10 hB_ hc_ => ?_)
        replace hB5 := hB_
        clear hB_
        replace hB2 := hB2.chg hc_ (by first | (show ¬ _ = _; omega) | (intro k_ hk_; simp [Value.ownBlock] at hk_; subst hk_; show ¬ _ = _; omega))
        replace hbw := bset hbw hc_ (by omega)
        have hz_w10 := hc_.size
        clear hc_
        refine Wn ?_
        refine tN ?_
        refine W_rs ?_
        refine sa rfl rfl ?_
        refine Wn ?_
        refine tN ?_
        refine W_seq ?_
        refine W_rs ?_
        refine sa rfl rfl ?_
        refine Wn ?_
        refine tN ?_
        refine W_block ?_
        have hM := (s.getD 12 0).toNat_lt
        refine W_lp (fun nw11_ lw11_ w11 => ∃ i : Nat, ∃ p : Nat, ∃ cs : List Col, ∃ ls : List (List Chk), ∃ vc : Value, ∃ vr : Value, ∃ ur : List Value, nw11_ = (s.getD 12 0).toNat - i ∧ lw11_ = ([(0, str s), (2, .pointer (some ⟨g2, 0, none⟩)), (4, .int .i64 n), (5, .pointer (some ⟨g5, 0, none⟩)), (6, .int .i64 p), (7, .int .i64 i)] : Env) ∧ (i ≤ (s.getD 12 0).toNat) ∧ (p ≤ n) ∧ (colsP (s.getD 12 0).toNat ((s.take n).drop 13) = (match colsP ((s.getD 12 0).toNat - i) ((s.take n).drop p) with | some (cs', ls', r) => some (cs ++ cs', ls ++ ls', r) | none => none)) ∧ (cs.length = i) ∧ (ls.length = i) ∧ (∀ c ∈ cs, c.name.length ≤ 9223372036854775807) ∧ (Blk w11 g5 32 #[.int .i64 (num (s.drop 4) : Nat), .int .i64 (num (s.drop 8) : Nat), vc, vr]) ∧ (Blk w11 g2 32 #[.int .i64 0, .int .i64 0, .slice none 0 0, .slice none 0 0]) ∧ (Row w11 60 3 vc i (cs.flatMap Col.cells)) ∧ (Row w11 67 1 vr i ur) ∧ (RowsRow 69 2 rcells w11 ur ls) ∧ (∀ k, vc.ownBlock = some k → w.heap.size ≤ k) ∧ (∀ k, vr.ownBlock = some k → w.heap.size ≤ k) ∧ (Below w.heap.size w w11)) _ ⟨_, ⟨0, 13, [], [], .slice none 0 0, .slice none 0 0, [], rfl, rfl, by omega, by omega, by cases colsP (s.getD 12 0).toNat ((s.take n).drop 13) with | none => rfl | some x => rfl, rfl, rfl, (fun c hc => by simp at hc), hB5, hB2, Row.nil _ _ _, Row.nil _ _ _, RowsRow.nil, (fun k hk => by simp [Value.ownBlock] at hk), (fun k hk => by simp [Value.ownBlock] at hk), hbw⟩, ⟨rfl, rfl, rfl, rfl, rfl, rfl, trivial⟩⟩ ?_
        clear hB5 hB2 hbw
        rintro nw11_ lw11_ w11 ⟨i, p, cs, ls, vc, vr, ur, rfl, rfl, hi, hpn, hpp, hcl, hll, hcn, hB5, hB2, hRc, hRs, hSt, hOc, hOs, hbw⟩
        have hz_w11 := hbw.size
        have hlt_hB5_w11 := hB5.lt
        have hlt_hB2_w11 := hB2.lt
        refine W_seq ?_
        refine W_rs ?_
        refine sm rfl rfl ?_
        refine sm rfl rfl ?_
        refine st (X.idxS (q := 12) rfl rfl Tryd.underlying9 rfl (by omega)) rfl ?_
        refine st (X.convI rfl Tryd.underlying5 Tryd.underlying3 (w64 (by have := lt_u8 (s.getD 12 0); omega))) rfl ?_
        refine st (X.lss rfl rfl) rfl ?_
        refine Wn ?_
        refine tN ?_
        refine W_if rfl (fun h42 => ?_) (fun h42 => ?_)
        · first | replace h42 := of_decide_eq_true h42 | replace h42 := of_decide_eq_false (notT h42) | replace h42 := notT h42 | skip
          obtain ⟨m, hm⟩ : ∃ m, (s.getD (p + 1) 0).toNat = m := ⟨_, rfl⟩
          have hm8 := (s.getD (p + 1) 0).toNat_lt
          refine W_skip ?_
          refine tN ?_
          refine W_seq ?_
          refine W_block ?_
          refine W_seq ?_
          refine W_rs ?_
          refine sm rfl rfl ?_
          refine st (X.add64 rfl rfl (by omega)) rfl ?_
          refine sm rfl rfl ?_
          refine st (X.gtr rfl rfl) rfl ?_
          refine sb rfl rfl (fun h49 => ?_) (fun h49 => ?_)
          · first | replace h49 := of_decide_eq_true h49 | replace h49 := of_decide_eq_false (notT h49) | replace h49 := notT h49 | skip
            refine gN (g := 49) rfl rfl rfl rfl ?_
            refine gN (g := 49) rfl rfl rfl rfl ?_
            refine gN (g := 49) rfl rfl rfl rfl ?_
            refine gN (g := 49) rfl rfl rfl rfl ?_
            refine gN (g := 49) rfl rfl rfl rfl ?_
            refine gN (g := 49) rfl rfl rfl rfl ?_
            refine gN (g := 49) rfl rfl rfl rfl ?_
            refine gN (g := 49) rfl rfl rfl rfl ?_
            refine gN (g := 49) rfl rfl rfl rfl ?_
            refine gN (g := 49) rfl rfl rfl rfl ?_
            refine gN (g := 49) rfl rfl rfl rfl ?_
            refine st (X.pickT rfl rfl) rfl ?_
            refine Wn ?_
            refine tN ?_
            refine W_yes rfl (rfl) ?_
            refine W_rs ?_
            refine st (X.bld rfl (brman0 _)) rfl ?_
            refine ssBN rfl rfl hB2 siz32 rfl rfl (fun w12 hB_ hc_ => ?_)
            replace hB2 := hB_
            clear hB_
            replace hB5 := hB5.chg hc_ (by first | (show ¬ _ = _; omega) | (intro k_ hk_; simp [Value.ownBlock] at hk_; subst hk_; show ¬ _ = _; omega))
            replace hbw := bset hbw hc_ (by omega)
            have hz_w12 := hc_.size
            clear hc_
            refine sa rfl rfl ?_
            refine Wn ?_
            refine tN ?_
            refine W_ret (tR (bR (tR (tR (bR (tR ?_))))))
            refine (rCT rfl rfl hB2 Tryd.underlying32 rfl siz32 rfl ⟨hbw, ?_⟩).1
            rw [hno none (colsP_stop (by omega) hpp (colP_no1 s n p (by omega) (by omega))) (by simp)]; rfl
          · first | replace h49 := of_decide_eq_false h49 | replace h49 := of_decide_eq_true (notF h49) | replace h49 := notF h49 | skip
            refine gY (g := 49) rfl rfl rfl ?_
            refine sm rfl rfl ?_
            refine gY (g := 49) rfl rfl rfl ?_
            refine st (X.add64 rfl rfl (by omega)) rfl ?_
            refine gY (g := 49) rfl rfl rfl ?_
            refine sm rfl rfl ?_
            refine gY (g := 49) rfl rfl rfl ?_
            refine sm rfl rfl ?_
            refine gY (g := 49) rfl rfl rfl ?_
            refine st (X.add64 rfl rfl (by omega)) rfl ?_
            refine gY (g := 49) rfl rfl rfl ?_
            refine st (X.idxS (q := p + 1) rfl rfl Tryd.underlying9 rfl (by omega)) rfl ?_
            refine gY (g := 49) rfl rfl rfl ?_
            refine st (X.convI (z := (m : Int)) rfl Tryd.underlying5 Tryd.underlying3 (by rw [w64 (by omega), hm])) rfl ?_
            refine gY (g := 49) rfl rfl rfl ?_
            refine st (X.add64 rfl rfl (by omega)) rfl ?_
            refine gY (g := 49) rfl rfl rfl ?_
            refine st (X.add64 rfl rfl (by omega)) rfl ?_
            refine gY (g := 49) rfl rfl rfl ?_
            refine sm rfl rfl ?_
            refine gY (g := 49) rfl rfl rfl ?_
            refine st (X.gtr rfl rfl) rfl ?_
            refine st (X.pickF rfl rfl) rfl ?_
            refine Wn ?_
            refine tN ?_
            refine W_if rfl (fun h61 => ?_) (fun h61 => ?_)
            · first | replace h61 := of_decide_eq_true h61 | replace h61 := of_decide_eq_false (notT h61) | replace h61 := notT h61 | skip
              refine W_rs ?_
              refine st (X.bld rfl (brman0 _)) rfl ?_
              refine ssBN rfl rfl hB2 siz32 rfl rfl (fun w13 hB_ hc_ => ?_)
              replace hB2 := hB_
              clear hB_
              replace hB5 := hB5.chg hc_ (by first | (show ¬ _ = _; omega) | (intro k_ hk_; simp [Value.ownBlock] at hk_; subst hk_; show ¬ _ = _; omega))
              replace hbw := bset hbw hc_ (by omega)
              have hz_w13 := hc_.size
              clear hc_
              refine sa rfl rfl ?_
              refine Wn ?_
              refine tN ?_
              refine W_ret (tR (bR (tR (tR (bR (tR ?_))))))
              refine (rCT rfl rfl hB2 Tryd.underlying32 rfl siz32 rfl ⟨hbw, ?_⟩).1
              rw [hno none (colsP_stop (by omega) hpp (colP_no2 s n p m (by omega) (by omega) hm (by omega))) (by simp)]; rfl
            · first | replace h61 := of_decide_eq_false h61 | replace h61 := of_decide_eq_true (notF h61) | replace h61 := notF h61 | skip
              refine W_skip ?_
              refine tN ?_
              refine W_rs ?_
              refine sm rfl rfl ?_
              refine sm rfl rfl ?_
              refine st (X.add64 rfl rfl (by omega)) rfl ?_
              refine st (X.idxS (q := p + 1) rfl rfl Tryd.underlying9 rfl (by omega)) rfl ?_
              refine st (X.convI (z := (m : Int)) rfl Tryd.underlying5 Tryd.underlying3 (by rw [w64 (by omega), hm])) rfl ?_
              refine sa rfl rfl ?_
              refine Wn ?_
              refine tN ?_
              refine W_trsN (fun _ => True) (.yes 0 (.yes 2 (.yes 3 (.yes 4 (.yes 5 (.yes 6 (.yes 7 (.yes 8 (.yes 9 (.yes 10 (.yes 11 (.yes 12 (.yes 13 (.yes 14 (.yes 15 (.yes 16 (.yes 17 (.yes 18 (.yes 19 (.pick (.alt 1 (.pick (.alt 20 (.pick (.alt 21 (.yes 22 (.pick (.alt 23 (.nil) (.no)))) (.no))) (.no))) (.alt 20 (.pick (.alt 1 (.pick (.alt 21 (.yes 22 (.pick (.alt 23 (.nil) (.no)))) (.no))) (.no))) (.no))))))))))))))))))))))) (by kernel_rfl) (by kernel_rfl) (trivial) ?_
              obtain ⟨w14, hw_⟩ : ∃ w14 : World, w14 = World.drew w11 := ⟨_, rfl⟩
              rw [← hw_]
              have hb : Below w11.heap.size w11 w14 := by rw [hw_]; exact bdrew (Below.refl _ _)
              clear hw_
              have hS : True := trivial
              have hpend := hb
              replace hbw := bthen hbw hb
              replace hB5 := hB5.bel hb
              replace hB2 := hB2.bel hb
              have hz_w14 := hb.size
              clear hb
              refine uY rfl (fun W_ hW_ => (X.fa fa32_2 rfl)) rfl ?_
              refine uY rfl (fun W_ hW_ => (X.move rfl)) rfl ?_
              refine uY rfl (fun W_ hW_ => (X.move rfl)) rfl ?_
              refine uY rfl (fun W_ hW_ => (X.add64 rfl rfl (by omega))) rfl ?_
              refine uY rfl (fun W_ hW_ => (X.move rfl)) rfl ?_
              refine uY rfl (fun W_ hW_ => (X.add64 rfl rfl (by omega))) rfl ?_
              refine uY rfl (fun W_ hW_ => (X.move rfl)) rfl ?_
              refine uY rfl (fun W_ hW_ => (X.add64 rfl rfl (by omega))) rfl ?_
              refine uY rfl (fun W_ hW_ => (X.cutS (i := p + 2) (j := p + 2 + m) rfl rfl rfl Tryd.underlying9 (by omega) (by omega) (by omega) (by omega))) rfl ?_
              refine uY rfl (fun W_ hW_ => (X.move rfl)) rfl ?_
              refine uY rfl (fun W_ hW_ => (X.move rfl)) rfl ?_
              refine uY rfl (fun W_ hW_ => (X.idxS (q := p) rfl rfl Tryd.underlying9 rfl (by omega))) rfl ?_
              refine uY rfl (fun W_ hW_ => (X.convI rfl Tryd.underlying5 Tryd.underlying3 (w64 (by have := lt_u8 (s.getD p 0); omega)))) rfl ?_
              refine uY rfl (fun W_ hW_ => (X.rem64 rfl rfl (by have := lt_u8 (s.getD p 0); omega) (by omega))) rfl ?_
              refine uY rfl (fun W_ hW_ => (X.move rfl)) rfl ?_
              refine uY rfl (fun W_ hW_ => (X.move rfl)) rfl ?_
              refine uY rfl (fun W_ hW_ => (X.idxS (q := p) rfl rfl Tryd.underlying9 rfl (by omega))) rfl ?_
              refine uY rfl (fun W_ hW_ => (X.geq rfl rfl)) rfl ?_
              refine uY rfl (fun W_ hW_ => (X.bld rfl (bcol3 _ _ _ _))) rfl ?_
              refine uP (uA rfl (fun Q_ hQ_ hP_ => ?_) (uA rfl (fun Q_ hQ_ hP_ => ?_) u0))
              · refine st (X.ldL rfl hB5 Tryd.underlying23 rfl rfl) rfl ?_
                refine Wn (hQ_ _ _ trivial ?_)
                clear hQ_ hP_ Q_
                refine uP (uA rfl (fun Q_ hQ_ hP_ => ?_) u0)
                refine sbs1 rfl Tryd.underlying23 inf60 rfl rfl (by decide) (by decide) rfl (fun g88 w15 hR88 hg88 hb => ?_)
                replace hpend := bthen hpend hb
                replace hbw := bthen hbw hb
                replace hB5 := hB5.bel hb
                replace hB2 := hB2.bel hb
                have hz_w15 := hb.size
                clear hb
                have hl88 := hR88.blt (by decide)
                refine Wn (hQ_ _ _ trivial ?_)
                clear hQ_ hP_ Q_
                refine uP (uA rfl (fun Q_ hQ_ hP_ => ?_) u0)
                replace hRc := hRc.bel hpend
                replace hRs := hRs.bel hpend
                replace hSt := hSt.bel hpend
                clear hpend
                refine sapp rfl rfl Tryd.underlying23 inf60 rfl (by decide) hRc (hR88.src Tryd.underlying23 (by intro z hz; simp [Value.cells] at hz; rcases hz with rfl | rfl | rfl <;> rfl)) (by simp only [maxLen]; omega) (by omega) rfl (fun vc' w16 hRc' hC hv' => ?_)
                replace hSt := hSt.chgR hC hRc (by decide)
                replace hRs := hRs.chg hC (fun k hk => hRs.apart_ hRc (by decide) k hk)
                replace hB5 := hB5.chg hC (hRc.ne_ hB5 (by decide))
                replace hB2 := hB2.chg hC (hRc.ne_ hB2 (by decide))
                replace hbw := bapp hbw hC hOc
                replace hOc := own_next hv' hOc (by omega)
                have hz_21 := hC.size
                replace hRc := hRc'
                clear hC hRc' hv'
                refine Wn (hQ_ _ _ trivial ?_)
                clear hQ_ hP_ Q_
                refine uY rfl (fun W_ hW_ => (X.fa fa32_2 rfl)) rfl ?_
                refine uP (uA rfl (fun Q_ hQ_ hP_ => ?_) u0)
                refine ssB rfl rfl hB5 siz23 hRc.one (by simp) (fun w17 hB_ hC => ?_)
                replace hRc := hRc.chg hC (fun k hk e => hRc.ne_ hB5 (by decide) (by rw [← e]; exact hk))
                replace hRs := hRs.chg hC (fun k hk e => hRs.ne_ hB5 (by decide) (by rw [← e]; exact hk))
                replace hSt := hSt.chgB hC hB5 (by decide)
                replace hB2 := hB2.chg hC (by show ¬ _ = _; omega)
                replace hbw := bset hbw hC (by omega)
                have hz_23 := hC.size
                replace hB5 := hB_
                clear hC hB_
                refine Wn (hQ_ _ _ trivial ?_)
                clear hQ_ hP_ Q_
                refine uN ?_
                refine nN ?_
                refine W_rs ?_
                refine sm rfl rfl ?_
                refine st (X.add64 rfl rfl (by omega)) rfl ?_
                refine sm rfl rfl ?_
                refine st (X.add rfl rfl (show IntKind.i64.wrap ((p : Int) + 2 + (m : Int)) = ((p + 2 + m : Nat) : Int) by rw [w64 (by omega)]; omega)) rfl ?_
                refine sa rfl rfl ?_
                refine Wn ?_
                refine tN ?_
                refine W_rs ?_
                refine sm rfl rfl ?_
                refine sm rfl rfl ?_
                refine sc _ Tryd.func23 rfl (by kernel_rfl) rfl rfl ((Of_any s (p + 2 + m) _ (by omega) hs).mono ?_)
                rintro e_ w18 ⟨rfl, hb⟩
                refine cR ?_
                have hpend := hb
                replace hbw := bthen hbw hb
                replace hB5 := hB5.bel hb
                replace hB2 := hB2.bel hb
                have hz_w18 := hb.size
                clear hb
                obtain ⟨k, hk⟩ : ∃ k, num (s.drop (p + 2 + m)) = k := ⟨_, rfl⟩
                rw [hk]
                refine sa rfl rfl ?_
                refine Wn ?_
                refine tN ?_
                refine W_rs ?_
                refine sm rfl rfl ?_
                refine st (X.add rfl rfl (show IntKind.i64.wrap (((p + 2 + m : Nat) : Int) + 4) = ((p + 2 + m + 4 : Nat) : Int) by rw [w64 (by omega)]; omega)) rfl ?_
                refine sa rfl rfl ?_
                refine Wn ?_
                refine tN ?_
                refine W_seq ?_
                refine W_rs ?_
                refine sm rfl rfl ?_
                refine sm rfl rfl ?_
                refine sm rfl rfl ?_
                refine st (X.sub64 rfl rfl (by omega)) rfl ?_
                refine st (X.quo64 rfl rfl (by omega) (by omega) (by omega)) rfl ?_
                refine st (X.gtr rfl rfl) rfl ?_
                refine Wn ?_
                refine tN ?_
                refine W_if rfl (fun h105 => ?_) (fun h105 => ?_)
                · first | replace h105 := of_decide_eq_true h105 | replace h105 := of_decide_eq_false (notT h105) | replace h105 := notT h105 | skip
                  refine W_rs ?_
                  refine st (X.bld rfl (brman0 _)) rfl ?_
                  refine ssBN rfl rfl hB2 siz32 rfl rfl (fun w19 hB_ hc_ => ?_)
                  replace hB2 := hB_
                  clear hB_
                  replace hB5 := hB5.chg hc_ (by first | (show ¬ _ = _; omega) | (intro k_ hk_; simp [Value.ownBlock] at hk_; subst hk_; show ¬ _ = _; omega))
                  replace hbw := bset hbw hc_ (by omega)
                  have hz_w19 := hc_.size
                  clear hc_
                  refine sa rfl rfl ?_
                  refine Wn ?_
                  refine tN ?_
                  replace hRc := hRc.bel hpend
                  replace hRs := hRs.bel hpend
                  replace hSt := hSt.bel hpend
                  clear hpend
                  refine W_ret (tR (bR (tR (tR (bR (tR ?_))))))
                  refine (rCT rfl rfl hB2 Tryd.underlying32 rfl siz32 rfl ⟨hbw, ?_⟩).1
                  rw [hno none (colsP_stop (by omega) hpp (colP_no3 s n p m k (by omega) hm (by omega) hk (by omega))) (by simp)]; rfl
                · first | replace h105 := of_decide_eq_false h105 | replace h105 := of_decide_eq_true (notF h105) | replace h105 := notF h105 | skip
                  have hk36 : k ≤ (n - (p + 2 + m + 4)) / 36 := by omega
                  have hkn : 36 * k ≤ n - (p + 2 + m + 4) := by omega
                  have hcy := colP_yes s n p m k (by omega) hm (by omega) hk hk36
                  refine W_skip ?_
                  refine tN ?_
                  refine W_rs ?_
                  refine sa rfl rfl ?_
                  refine Wn ?_
                  refine tN ?_
                  refine W_seq ?_
                  refine W_rs ?_
                  refine sa rfl rfl ?_
                  refine Wn ?_
                  refine tN ?_
                  refine W_block ?_
                  replace hRc := hRc.bel hpend
                  replace hRs := hRs.bel hpend
                  replace hSt := hSt.bel hpend
                  clear hpend
                  obtain ⟨wi, hwi⟩ : ∃ W_ : World, W_ = w18 := ⟨_, rfl⟩
                  have hSt0 := hSt
                  have hbi : Since w18 w18 := ⟨Below.refl _ _⟩
                  rw [← hwi] at hSt0
                  have hbi : Since wi w18 := by rw [hwi]; exact ⟨Below.refl _ _⟩
                  have hwz : w.heap.size ≤ wi.heap.size := by rw [hwi]; omega
                  clear hwi
                  refine W_lp (fun nw20_ lw20_ w20 => ∃ j : Nat, ∃ v5 : Value, nw20_ = k - j ∧ lw20_ = ([(0, str s), (2, .pointer (some ⟨g2, 0, none⟩)), (4, .int .i64 n), (5, .pointer (some ⟨g5, 0, none⟩)), (6, .int .i64 ((p + 2 + m + 4 + 36 * j : Nat) : Int)), (7, .int .i64 i), (9, .int .i64 k), (10, v5), (11, .int .i64 j)] : Env) ∧ (j ≤ k) ∧ (Blk w20 g5 32 #[.int .i64 (num (s.drop 4) : Nat), .int .i64 (num (s.drop 8) : Nat), vc', vr]) ∧ (Blk w20 g2 32 #[.int .i64 0, .int .i64 0, .slice none 0 0, .slice none 0 0]) ∧ (Row w20 60 3 vc' (i + 1) _) ∧ (Row w20 67 1 vr i ur) ∧ (Row w20 69 2 v5 j (((chksOf k ((s.take n).drop (p + 2 + m + 4))).take j).flatMap rcells)) ∧ (∀ k, v5.ownBlock = some k → wi.heap.size ≤ k) ∧ (Since wi w20) ∧ (Below w.heap.size w w20)) _ ⟨_, ⟨0, .slice none 0 0, rfl, rfl, by omega, hB5, hB2, hRc, hRs, Row.nil _ _ _, (fun k hk => by simp [Value.ownBlock] at hk), hbi, hbw⟩, ⟨rfl, rfl, rfl, rfl, rfl, rfl, rfl, rfl, rfl, trivial⟩⟩ ?_
                  clear hB5 hB2 hRc hRs hbi hbw
                  rintro nw20_ lw20_ w20 ⟨j, v5, rfl, rfl, hj, hB5, hB2, hRc, hRs, hRu, hOu, hbi, hbw⟩
                  have hz_w20 := hbw.size
                  have hlt_hB5_w20 := hB5.lt
                  have hlt_hB2_w20 := hB2.lt
                  refine W_seq ?_
                  refine W_rs ?_
                  refine sm rfl rfl ?_
                  refine sm rfl rfl ?_
                  refine st (X.lss rfl rfl) rfl ?_
                  refine Wn ?_
                  refine tN ?_
                  refine W_if rfl (fun h109 => ?_) (fun h109 => ?_)
                  · first | replace h109 := of_decide_eq_true h109 | replace h109 := of_decide_eq_false (notT h109) | replace h109 := notT h109 | skip
                    have hy := chks_ix s n (p + 2 + m + 4) k j (by omega) (by omega)
                    have hbs := hbi.b.size
                    refine W_skip ?_
                    refine tN ?_
                    refine W_seq ?_
                    refine W_block ?_
                    refine W_drsN (fun _ => True) [0, 1, 2, 3, 4, 5, 6, 7, 8, 9, 10, 11, 12, 13] [true, true, true, true, true, true, true, true, true, false, true, false, false, true] (by kernel_rfl) (by kernel_rfl) (trivial) ?_
                    obtain ⟨w21, hw_⟩ : ∃ w21 : World, w21 = World.drew w20 := ⟨_, rfl⟩
                    rw [← hw_]
                    have hb : Below w20.heap.size w20 w21 := by rw [hw_]; exact bdrew (Below.refl _ _)
                    clear hw_
                    have hS : True := trivial
                    have hpend := hb
                    replace hbw := bthen hbw hb
                    replace hB5 := hB5.bel hb
                    replace hB2 := hB2.bel hb
                    replace hbi := hbi.bel hb
                    have hz_w21 := hb.size
                    clear hb
                    refine oY rfl (fun W_ hW_ => (X.move rfl)) rfl ?_
                    refine oY rfl (fun W_ hW_ => (X.move rfl)) rfl ?_
                    refine oY rfl (fun W_ hW_ => (X.move rfl)) rfl ?_
                    refine oY rfl (fun W_ hW_ => (X.move rfl)) rfl ?_
                    refine oY rfl (fun W_ hW_ => (X.add rfl rfl (show IntKind.i64.wrap (((p + 2 + m + 4 + 36 * j : Nat) : Int) + 32) = ((p + 2 + m + 4 + 36 * j + 32 : Nat) : Int) by rw [w64 (by omega)]; omega))) rfl ?_
                    refine oY rfl (fun W_ hW_ => (X.cutS (i := p + 2 + m + 4 + 36 * j) (j := p + 2 + m + 4 + 36 * j + 32) rfl rfl rfl Tryd.underlying9 rfl rfl (by omega) (by omega))) rfl ?_
                    refine oY rfl (fun W_ hW_ => (X.move rfl)) rfl ?_
                    refine oY rfl (fun W_ hW_ => (X.move rfl)) rfl ?_
                    refine oY rfl (fun W_ hW_ => (X.add rfl rfl (show IntKind.i64.wrap (((p + 2 + m + 4 + 36 * j : Nat) : Int) + 32) = ((p + 2 + m + 4 + 36 * j + 32 : Nat) : Int) by rw [w64 (by omega)]; omega))) rfl ?_
                    refine oL rfl (fun Q_ hQ_ hP_ => ?_)
                    refine sc _ Tryd.func23 rfl (by kernel_rfl) rfl rfl ((Of_any s (p + 2 + m + 4 + 36 * j + 32) _ (by omega) hs).mono ?_)
                    rintro e_ w22 ⟨rfl, hb⟩
                    refine cR ?_
                    replace hpend := bthen hpend hb
                    replace hbw := bthen hbw hb
                    replace hB5 := hB5.bel hb
                    replace hB2 := hB2.bel hb
                    replace hbi := hbi.bel hb
                    have hz_w22 := hb.size
                    clear hb
                    refine Wn (hQ_ _ _ trivial ?_)
                    clear hQ_ hP_ Q_
                    refine oY rfl (fun W_ hW_ => (X.bld rfl (brchk _ _ _))) rfl ?_
                    refine oL rfl (fun Q_ hQ_ hP_ => ?_)
                    refine sbs1 rfl Tryd.underlying67 inf69 rfl rfl (by decide) (by decide) rfl (fun g123 w23 hR123 hg123 hb => ?_)
                    replace hpend := bthen hpend hb
                    replace hbw := bthen hbw hb
                    replace hB5 := hB5.bel hb
                    replace hB2 := hB2.bel hb
                    replace hbi := hbi.bel hb
                    have hz_w23 := hb.size
                    clear hb
                    have hl123 := hR123.blt (by decide)
                    refine Wn (hQ_ _ _ trivial ?_)
                    clear hQ_ hP_ Q_
                    refine oL rfl (fun Q_ hQ_ hP_ => ?_)
                    replace hRc := hRc.bel hpend
                    replace hRs := hRs.bel hpend
                    replace hRu := hRu.bel hpend
                    clear hpend
                    refine sapp rfl rfl Tryd.underlying67 inf69 rfl (by decide) hRu (hR123.src Tryd.underlying67 (rcells_one ⟨_, _⟩)) (by simp only [maxLen]; omega) (by omega) rfl (fun v5' w24 hRu' hC hv' => ?_)
                    replace hRc := hRc.chg hC (fun k hk => hRc.apart_ hRu (by decide) k hk)
                    replace hRs := hRs.chg hC (fun k hk => hRs.apart_ hRu (by decide) k hk)
                    replace hB5 := hB5.chg hC (hRu.ne_ hB5 (by decide))
                    replace hB2 := hB2.chg hC (hRu.ne_ hB2 (by decide))
                    replace hbi := Since.mk (bapp hbi.b hC hOu)
                    replace hbw := bapp hbw hC (fun k hk => by have := hOu k hk; omega)
                    replace hOu := own_next hv' hOu (by omega)
                    have hz_12 := hC.size
                    replace hRu := hRu'
                    clear hC hRu' hv'
                    refine Wn (hQ_ _ _ trivial ?_)
                    clear hQ_ hP_ Q_
                    refine oY rfl (fun W_ hW_ => (X.assign rfl)) rfl ?_
                    refine oN ?_
                    refine nN ?_
                    refine W_reg ?_
                    refine sm rfl rfl ?_
                    refine st (X.add rfl rfl (show IntKind.i64.wrap (((p + 2 + m + 4 + 36 * j : Nat) : Int) + 36) = ((p + 2 + m + 4 + 36 * (j + 1) : Nat) : Int) by rw [w64 (by omega)]; omega)) rfl ?_
                    refine sa rfl rfl ?_
                    refine Wn ?_
                    refine bN ?_
                    refine tN ?_
                    refine W_reg ?_
                    refine sm rfl rfl ?_
                    refine st (X.add64 rfl rfl (by omega)) rfl ?_
                    refine sa rfl rfl ?_
                    refine Wn ?_
                    refine tN ⟨_, _, ?_, ⟨j + 1, v5', rfl, rfl, by omega, hB5, hB2, hRc, hRs, by rw [take_next' hy, List.flatMap_append]; exact hRu, hOu, hbi, hbw⟩, ⟨rfl, rfl, rfl, rfl, rfl, rfl, rfl, rfl, rfl, trivial⟩⟩
                    omega
                  · first | replace h109 := of_decide_eq_false h109 | replace h109 := of_decide_eq_true (notF h109) | replace h109 := notF h109 | skip
                    obtain rfl : k = j := by omega
                    rw [List.take_of_length_le (by rw [chksOf_length]; omega)] at hRu
                    obtain ⟨a5, c5, rfl, hn5, hc5⟩ := hRu.shape
                    have hSt := hSt0.bel hbi.b
                    refine W_exit (tE (tE (bH ?_)))
                    refine tN ?_
                    refine W_reg ?_
                    refine st (X.fa fa32_3 rfl) rfl ?_
                    refine st (X.ldL rfl hB5 Tryd.underlying30 rfl rfl) rfl ?_
                    refine sm rfl rfl ?_
                    refine sbs1 rfl Tryd.underlying30 inf67 rfl rfl (by decide) (by decide) rfl (fun g130 w25 hR130 hg130 hb => ?_)
                    have hpend := hb
                    replace hbw := bthen hbw hb
                    replace hB5 := hB5.bel hb
                    replace hB2 := hB2.bel hb
                    replace hbi := hbi.bel hb
                    have hz_w25 := hb.size
                    clear hb
                    have hl130 := hR130.blt (by decide)
                    replace hRc := hRc.bel hpend
                    replace hRs := hRs.bel hpend
                    replace hRu := hRu.bel hpend
                    replace hSt := hSt.bel hpend
                    clear hpend
                    refine sapp rfl rfl Tryd.underlying30 inf67 rfl (by decide) hRs (hR130.src Tryd.underlying30 (by intro z hz; simp [Value.cells] at hz; subst hz; rfl)) (by simp only [maxLen]; omega) (by omega) rfl (fun vr' w26 hRs' hC hv' => ?_)
                    replace hSt := hSt.chgR hC hRs (by decide)
                    replace hRc := hRc.chg hC (fun k hk => hRc.apart_ hRs (by decide) k hk)
                    replace hRu := hRu.chg hC (fun k hk => hRu.apart_ hRs (by decide) k hk)
                    replace hB5 := hB5.chg hC (hRs.ne_ hB5 (by decide))
                    replace hB2 := hB2.chg hC (hRs.ne_ hB2 (by decide))
                    replace hbw := bapp hbw hC hOs
                    replace hOs := own_next hv' hOs (by omega)
                    have hz_36 := hC.size
                    replace hRs := hRs'
                    clear hC hRs' hv'
                    refine st (X.fa fa32_3 rfl) rfl ?_
                    refine ssB rfl rfl hB5 siz30 hRs.one (by simp) (fun w27 hB_ hC => ?_)
                    replace hRc := hRc.chg hC (fun k hk e => hRc.ne_ hB5 (by decide) (by rw [← e]; exact hk))
                    replace hRs := hRs.chg hC (fun k hk e => hRs.ne_ hB5 (by decide) (by rw [← e]; exact hk))
                    replace hRu := hRu.chg hC (fun k hk e => hRu.ne_ hB5 (by decide) (by rw [← e]; exact hk))
                    replace hSt := hSt.chgB hC hB5 (by decide)
                    replace hB2 := hB2.chg hC (by show ¬ _ = _; omega)
                    replace hbw := bset hbw hC (by omega)
                    have hz_37 := hC.size
                    replace hB5 := hB_
                    clear hC hB_
                    replace hSt := hSt.snoc (l := chksOf k ((s.take n).drop (p + 2 + m + 4))) (by rw [chksOf_length]; exact hRu)
                    refine Wn ?_
                    refine bN ?_
                    refine tN ?_
                    refine W_reg ?_
                    refine sm rfl rfl ?_
                    refine st (X.add64 rfl rfl (by omega)) rfl ?_
                    refine sa rfl rfl ?_
                    refine Wn ?_
                    refine tN ⟨_, _, ?_, ⟨i + 1, p + 2 + m + 4 + 36 * k, cs ++ [⟨(s.take (p + 2 + m)).drop (p + 2), ((s.getD p 0).toNat : Int) % 128, decide ((128 : Int) ≤ ((s.getD p 0).toNat : Int))⟩], ls ++ [chksOf k ((s.take n).drop (p + 2 + m + 4))], vc', vr', ur ++ [.slice a5 k c5], rfl, rfl, by omega, by omega, colsP_next (by omega) hpp hcy, by rw [List.length_append, hcl]; rfl, by rw [List.length_append, hll]; rfl, (fun c hc => by rcases List.mem_append.1 hc with hc | hc; exact hcn c hc; simp at hc; subst hc; simp; omega), hB5, hB2, by rw [List.flatMap_append]; exact hRc, hRs, hSt, hOc, hOs, hbw⟩, ⟨rfl, rfl, rfl, rfl, rfl, rfl, trivial⟩⟩
                    omega
              · refine sbs1 rfl Tryd.underlying23 inf60 rfl rfl (by decide) (by decide) rfl (fun g88 w28 hR88 hg88 hb => ?_)
                replace hpend := bthen hpend hb
                replace hbw := bthen hbw hb
                replace hB5 := hB5.bel hb
                replace hB2 := hB2.bel hb
                have hz_w28 := hb.size
                clear hb
                have hl88 := hR88.blt (by decide)
                refine Wn (hQ_ _ _ trivial ?_)
                clear hQ_ hP_ Q_
                refine uP (uA rfl (fun Q_ hQ_ hP_ => ?_) u0)
                refine st (X.ldL rfl hB5 Tryd.underlying23 rfl rfl) rfl ?_
                refine Wn (hQ_ _ _ trivial ?_)
                clear hQ_ hP_ Q_
                refine uP (uA rfl (fun Q_ hQ_ hP_ => ?_) u0)
                replace hRc := hRc.bel hpend
                replace hRs := hRs.bel hpend
                replace hSt := hSt.bel hpend
                clear hpend
                refine sapp rfl rfl Tryd.underlying23 inf60 rfl (by decide) hRc (hR88.src Tryd.underlying23 (by intro z hz; simp [Value.cells] at hz; rcases hz with rfl | rfl | rfl <;> rfl)) (by simp only [maxLen]; omega) (by omega) rfl (fun vc' w29 hRc' hC hv' => ?_)
                replace hSt := hSt.chgR hC hRc (by decide)
                replace hRs := hRs.chg hC (fun k hk => hRs.apart_ hRc (by decide) k hk)
                replace hB5 := hB5.chg hC (hRc.ne_ hB5 (by decide))
                replace hB2 := hB2.chg hC (hRc.ne_ hB2 (by decide))
                replace hbw := bapp hbw hC hOc
                replace hOc := own_next hv' hOc (by omega)
                have hz_21 := hC.size
                replace hRc := hRc'
                clear hC hRc' hv'
                refine Wn (hQ_ _ _ trivial ?_)
                clear hQ_ hP_ Q_
                refine uY rfl (fun W_ hW_ => (X.fa fa32_2 rfl)) rfl ?_
                refine uP (uA rfl (fun Q_ hQ_ hP_ => ?_) u0)
                refine ssB rfl rfl hB5 siz23 hRc.one (by simp) (fun w30 hB_ hC => ?_)
                replace hRc := hRc.chg hC (fun k hk e => hRc.ne_ hB5 (by decide) (by rw [← e]; exact hk))
                replace hRs := hRs.chg hC (fun k hk e => hRs.ne_ hB5 (by decide) (by rw [← e]; exact hk))
                replace hSt := hSt.chgB hC hB5 (by decide)
                replace hB2 := hB2.chg hC (by show ¬ _ = _; omega)
                replace hbw := bset hbw hC (by omega)
                have hz_23 := hC.size
                replace hB5 := hB_
                clear hC hB_
                refine Wn (hQ_ _ _ trivial ?_)
                clear hQ_ hP_ Q_
                refine uN ?_
                refine nN ?_
                refine W_rs ?_
                refine sm rfl rfl ?_
                refine st (X.add64 rfl rfl (by omega)) rfl ?_
                refine sm rfl rfl ?_
                refine st (X.add rfl rfl (show IntKind.i64.wrap ((p : Int) + 2 + (m : Int)) = ((p + 2 + m : Nat) : Int) by rw [w64 (by omega)]; omega)) rfl ?_
                refine sa rfl rfl ?_
                refine Wn ?_
                refine tN ?_
                refine W_rs ?_
                refine sm rfl rfl ?_
                refine sm rfl rfl ?_
                refine sc _ Tryd.func23 rfl (by kernel_rfl) rfl rfl ((Of_any s (p + 2 + m) _ (by omega) hs).mono ?_)
                rintro e_ w31 ⟨rfl, hb⟩
                refine cR ?_
                have hpend := hb
                replace hbw := bthen hbw hb
                replace hB5 := hB5.bel hb
                replace hB2 := hB2.bel hb
                have hz_w31 := hb.size
                clear hb
                obtain ⟨k, hk⟩ : ∃ k, num (s.drop (p + 2 + m)) = k := ⟨_, rfl⟩
                rw [hk]
                refine sa rfl rfl ?_
                refine Wn ?_
                refine tN ?_
                refine W_rs ?_
                refine sm rfl rfl ?_
                refine st (X.add rfl rfl (show IntKind.i64.wrap (((p + 2 + m : Nat) : Int) + 4) = ((p + 2 + m + 4 : Nat) : Int) by rw [w64 (by omega)]; omega)) rfl ?_
                refine sa rfl rfl ?_
                refine Wn ?_
                refine tN ?_
                refine W_seq ?_
                refine W_rs ?_
                refine sm rfl rfl ?_
                refine sm rfl rfl ?_
                refine sm rfl rfl ?_
                refine st (X.sub64 rfl rfl (by omega)) rfl ?_
                refine st (X.quo64 rfl rfl (by omega) (by omega) (by omega)) rfl ?_
                refine st (X.gtr rfl rfl) rfl ?_
                refine Wn ?_
                refine tN ?_
                refine W_if rfl (fun h105 => ?_) (fun h105 => ?_)
                · first | replace h105 := of_decide_eq_true h105 | replace h105 := of_decide_eq_false (notT h105) | replace h105 := notT h105 | skip
                  refine W_rs ?_
                  refine st (X.bld rfl (brman0 _)) rfl ?_
                  refine ssBN rfl rfl hB2 siz32 rfl rfl (fun w32 hB_ hc_ => ?_)
                  replace hB2 := hB_
                  clear hB_
                  replace hB5 := hB5.chg hc_ (by first | (show ¬ _ = _; omega) | (intro k_ hk_; simp [Value.ownBlock] at hk_; subst hk_; show ¬ _ = _; omega))
                  replace hbw := bset hbw hc_ (by omega)
                  have hz_w32 := hc_.size
                  clear hc_
                  refine sa rfl rfl ?_
                  refine Wn ?_
                  refine tN ?_
                  replace hRc := hRc.bel hpend
                  replace hRs := hRs.bel hpend
                  replace hSt := hSt.bel hpend
                  clear hpend
                  refine W_ret (tR (bR (tR (tR (bR (tR ?_))))))
                  refine (rCT rfl rfl hB2 Tryd.underlying32 rfl siz32 rfl ⟨hbw, ?_⟩).1
                  rw [hno none (colsP_stop (by omega) hpp (colP_no3 s n p m k (by omega) hm (by omega) hk (by omega))) (by simp)]; rfl
                · first | replace h105 := of_decide_eq_false h105 | replace h105 := of_decide_eq_true (notF h105) | replace h105 := notF h105 | skip
                  have hk36 : k ≤ (n - (p + 2 + m + 4)) / 36 := by omega
                  have hkn : 36 * k ≤ n - (p + 2 + m + 4) := by omega
                  have hcy := colP_yes s n p m k (by omega) hm (by omega) hk hk36
                  refine W_skip ?_
                  refine tN ?_
                  refine W_rs ?_
                  refine sa rfl rfl ?_
                  refine Wn ?_
                  refine tN ?_
                  refine W_seq ?_
                  refine W_rs ?_
                  refine sa rfl rfl ?_
                  refine Wn ?_
                  refine tN ?_
                  refine W_block ?_
                  replace hRc := hRc.bel hpend
                  replace hRs := hRs.bel hpend
                  replace hSt := hSt.bel hpend
                  clear hpend
                  obtain ⟨wi, hwi⟩ : ∃ W_ : World, W_ = w31 := ⟨_, rfl⟩
                  have hSt0 := hSt
                  have hbi : Since w31 w31 := ⟨Below.refl _ _⟩
                  rw [← hwi] at hSt0
                  have hbi : Since wi w31 := by rw [hwi]; exact ⟨Below.refl _ _⟩
                  have hwz : w.heap.size ≤ wi.heap.size := by rw [hwi]; omega
                  clear hwi
                  refine W_lp (fun nw33_ lw33_ w33 => ∃ j : Nat, ∃ v5 : Value, nw33_ = k - j ∧ lw33_ = ([(0, str s), (2, .pointer (some ⟨g2, 0, none⟩)), (4, .int .i64 n), (5, .pointer (some ⟨g5, 0, none⟩)), (6, .int .i64 ((p + 2 + m + 4 + 36 * j : Nat) : Int)), (7, .int .i64 i), (9, .int .i64 k), (10, v5), (11, .int .i64 j)] : Env) ∧ (j ≤ k) ∧ (Blk w33 g5 32 #[.int .i64 (num (s.drop 4) : Nat), .int .i64 (num (s.drop 8) : Nat), vc', vr]) ∧ (Blk w33 g2 32 #[.int .i64 0, .int .i64 0, .slice none 0 0, .slice none 0 0]) ∧ (Row w33 60 3 vc' (i + 1) _) ∧ (Row w33 67 1 vr i ur) ∧ (Row w33 69 2 v5 j (((chksOf k ((s.take n).drop (p + 2 + m + 4))).take j).flatMap rcells)) ∧ (∀ k, v5.ownBlock = some k → wi.heap.size ≤ k) ∧ (Since wi w33) ∧ (Below w.heap.size w w33)) _ ⟨_, ⟨0, .slice none 0 0, rfl, rfl, by omega, hB5, hB2, hRc, hRs, Row.nil _ _ _, (fun k hk => by simp [Value.ownBlock] at hk), hbi, hbw⟩, ⟨rfl, rfl, rfl, rfl, rfl, rfl, rfl, rfl, rfl, trivial⟩⟩ ?_
                  clear hB5 hB2 hRc hRs hbi hbw
                  rintro nw33_ lw33_ w33 ⟨j, v5, rfl, rfl, hj, hB5, hB2, hRc, hRs, hRu, hOu, hbi, hbw⟩
                  have hz_w33 := hbw.size
                  have hlt_hB5_w33 := hB5.lt
                  have hlt_hB2_w33 := hB2.lt
                  refine W_seq ?_
                  refine W_rs ?_
                  refine sm rfl rfl ?_
                  refine sm rfl rfl ?_
                  refine st (X.lss rfl rfl) rfl ?_
                  refine Wn ?_
                  refine tN ?_
                  refine W_if rfl (fun h109 => ?_) (fun h109 => ?_)
                  · first | replace h109 := of_decide_eq_true h109 | replace h109 := of_decide_eq_false (notT h109) | replace h109 := notT h109 | skip
                    have hy := chks_ix s n (p + 2 + m + 4) k j (by omega) (by omega)
                    have hbs := hbi.b.size
                    refine W_skip ?_
                    refine tN ?_
                    refine W_seq ?_
                    refine W_block ?_
                    refine W_drsN (fun _ => True) [0, 1, 2, 3, 4, 5, 6, 7, 8, 9, 10, 11, 12, 13] [true, true, true, true, true, true, true, true, true, false, true, false, false, true] (by kernel_rfl) (by kernel_rfl) (trivial) ?_
                    obtain ⟨w34, hw_⟩ : ∃ w34 : World, w34 = World.drew w33 := ⟨_, rfl⟩
                    rw [← hw_]
                    have hb : Below w33.heap.size w33 w34 := by rw [hw_]; exact bdrew (Below.refl _ _)
                    clear hw_
                    have hS : True := trivial
                    have hpend := hb
                    replace hbw := bthen hbw hb
                    replace hB5 := hB5.bel hb
                    replace hB2 := hB2.bel hb
                    replace hbi := hbi.bel hb
                    have hz_w34 := hb.size
                    clear hb
                    refine oY rfl (fun W_ hW_ => (X.move rfl)) rfl ?_
                    refine oY rfl (fun W_ hW_ => (X.move rfl)) rfl ?_
                    refine oY rfl (fun W_ hW_ => (X.move rfl)) rfl ?_
                    refine oY rfl (fun W_ hW_ => (X.move rfl)) rfl ?_
                    refine oY rfl (fun W_ hW_ => (X.add rfl rfl (show IntKind.i64.wrap (((p + 2 + m + 4 + 36 * j : Nat) : Int) + 32) = ((p + 2 + m + 4 + 36 * j + 32 : Nat) : Int) by rw [w64 (by omega)]; omega))) rfl ?_
                    refine oY rfl (fun W_ hW_ => (X.cutS (i := p + 2 + m + 4 + 36 * j) (j := p + 2 + m + 4 + 36 * j + 32) rfl rfl rfl Tryd.underlying9 rfl rfl (by omega) (by omega))) rfl ?_
                    refine oY rfl (fun W_ hW_ => (X.move rfl)) rfl ?_
                    refine oY rfl (fun W_ hW_ => (X.move rfl)) rfl ?_
                    refine oY rfl (fun W_ hW_ => (X.add rfl rfl (show IntKind.i64.wrap (((p + 2 + m + 4 + 36 * j : Nat) : Int) + 32) = ((p + 2 + m + 4 + 36 * j + 32 : Nat) : Int) by rw [w64 (by omega)]; omega))) rfl ?_
                    refine oL rfl (fun Q_ hQ_ hP_ => ?_)
                    refine sc _ Tryd.func23 rfl (by kernel_rfl) rfl rfl ((Of_any s (p + 2 + m + 4 + 36 * j + 32) _ (by omega) hs).mono ?_)
                    rintro e_ w35 ⟨rfl, hb⟩
                    refine cR ?_
                    replace hpend := bthen hpend hb
                    replace hbw := bthen hbw hb
                    replace hB5 := hB5.bel hb
                    replace hB2 := hB2.bel hb
                    replace hbi := hbi.bel hb
                    have hz_w35 := hb.size
                    clear hb
                    refine Wn (hQ_ _ _ trivial ?_)
                    clear hQ_ hP_ Q_
                    refine oY rfl (fun W_ hW_ => (X.bld rfl (brchk _ _ _))) rfl ?_
                    refine oL rfl (fun Q_ hQ_ hP_ => ?_)
                    refine sbs1 rfl Tryd.underlying67 inf69 rfl rfl (by decide) (by decide) rfl (fun g123 w36 hR123 hg123 hb => ?_)
                    replace hpend := bthen hpend hb
                    replace hbw := bthen hbw hb
                    replace hB5 := hB5.bel hb
                    replace hB2 := hB2.bel hb
                    replace hbi := hbi.bel hb
                    have hz_w36 := hb.size
                    clear hb
                    have hl123 := hR123.blt (by decide)
                    refine Wn (hQ_ _ _ trivial ?_)
                    clear hQ_ hP_ Q_
                    refine oL rfl (fun Q_ hQ_ hP_ => ?_)
                    replace hRc := hRc.bel hpend
                    replace hRs := hRs.bel hpend
                    replace hRu := hRu.bel hpend
                    clear hpend
                    refine sapp rfl rfl Tryd.underlying67 inf69 rfl (by decide) hRu (hR123.src Tryd.underlying67 (rcells_one ⟨_, _⟩)) (by simp only [maxLen]; omega) (by omega) rfl (fun v5' w37 hRu' hC hv' => ?_)
                    replace hRc := hRc.chg hC (fun k hk => hRc.apart_ hRu (by decide) k hk)
                    replace hRs := hRs.chg hC (fun k hk => hRs.apart_ hRu (by decide) k hk)
                    replace hB5 := hB5.chg hC (hRu.ne_ hB5 (by decide))
                    replace hB2 := hB2.chg hC (hRu.ne_ hB2 (by decide))
                    replace hbi := Since.mk (bapp hbi.b hC hOu)
                    replace hbw := bapp hbw hC (fun k hk => by have := hOu k hk; omega)
                    replace hOu := own_next hv' hOu (by omega)
                    have hz_12 := hC.size
                    replace hRu := hRu'
                    clear hC hRu' hv'
                    refine Wn (hQ_ _ _ trivial ?_)
                    clear hQ_ hP_ Q_
                    refine oY rfl (fun W_ hW_ => (X.assign rfl)) rfl ?_
                    refine oN ?_
                    refine nN ?_
                    refine W_reg ?_
                    refine sm rfl rfl ?_
                    refine st (X.add rfl rfl (show IntKind.i64.wrap (((p + 2 + m + 4 + 36 * j : Nat) : Int) + 36) = ((p + 2 + m + 4 + 36 * (j + 1) : Nat) : Int) by rw [w64 (by omega)]; omega)) rfl ?_
                    refine sa rfl rfl ?_
                    refine Wn ?_
                    refine bN ?_
                    refine tN ?_
                    refine W_reg ?_
                    refine sm rfl rfl ?_
                    refine st (X.add64 rfl rfl (by omega)) rfl ?_
                    refine sa rfl rfl ?_
                    refine Wn ?_
                    refine tN ⟨_, _, ?_, ⟨j + 1, v5', rfl, rfl, by omega, hB5, hB2, hRc, hRs, by rw [take_next' hy, List.flatMap_append]; exact hRu, hOu, hbi, hbw⟩, ⟨rfl, rfl, rfl, rfl, rfl, rfl, rfl, rfl, rfl, trivial⟩⟩
                    omega
                  · first | replace h109 := of_decide_eq_false h109 | replace h109 := of_decide_eq_true (notF h109) | replace h109 := notF h109 | skip
                    obtain rfl : k = j := by omega
                    rw [List.take_of_length_le (by rw [chksOf_length]; omega)] at hRu
                    obtain ⟨a5, c5, rfl, hn5, hc5⟩ := hRu.shape
                    have hSt := hSt0.bel hbi.b
                    refine W_exit (tE (tE (bH ?_)))
                    refine tN ?_
                    refine W_reg ?_
                    refine st (X.fa fa32_3 rfl) rfl ?_
                    refine st (X.ldL rfl hB5 Tryd.underlying30 rfl rfl) rfl ?_
                    refine sm rfl rfl ?_
                    refine sbs1 rfl Tryd.underlying30 inf67 rfl rfl (by decide) (by decide) rfl (fun g130 w38 hR130 hg130 hb => ?_)
                    have hpend := hb
                    replace hbw := bthen hbw hb
                    replace hB5 := hB5.bel hb
                    replace hB2 := hB2.bel hb
                    replace hbi := hbi.bel hb
                    have hz_w38 := hb.size
                    clear hb
                    have hl130 := hR130.blt (by decide)
                    replace hRc := hRc.bel hpend
                    replace hRs := hRs.bel hpend
                    replace hRu := hRu.bel hpend
                    replace hSt := hSt.bel hpend
                    clear hpend
                    refine sapp rfl rfl Tryd.underlying30 inf67 rfl (by decide) hRs (hR130.src Tryd.underlying30 (by intro z hz; simp [Value.cells] at hz; subst hz; rfl)) (by simp only [maxLen]; omega) (by omega) rfl (fun vr' w39 hRs' hC hv' => ?_)
                    replace hSt := hSt.chgR hC hRs (by decide)
                    replace hRc := hRc.chg hC (fun k hk => hRc.apart_ hRs (by decide) k hk)
                    replace hRu := hRu.chg hC (fun k hk => hRu.apart_ hRs (by decide) k hk)
                    replace hB5 := hB5.chg hC (hRs.ne_ hB5 (by decide))
                    replace hB2 := hB2.chg hC (hRs.ne_ hB2 (by decide))
                    replace hbw := bapp hbw hC hOs
                    replace hOs := own_next hv' hOs (by omega)
                    have hz_36 := hC.size
                    replace hRs := hRs'
                    clear hC hRs' hv'
                    refine st (X.fa fa32_3 rfl) rfl ?_
                    refine ssB rfl rfl hB5 siz30 hRs.one (by simp) (fun w40 hB_ hC => ?_)
                    replace hRc := hRc.chg hC (fun k hk e => hRc.ne_ hB5 (by decide) (by rw [← e]; exact hk))
                    replace hRs := hRs.chg hC (fun k hk e => hRs.ne_ hB5 (by decide) (by rw [← e]; exact hk))
                    replace hRu := hRu.chg hC (fun k hk e => hRu.ne_ hB5 (by decide) (by rw [← e]; exact hk))
                    replace hSt := hSt.chgB hC hB5 (by decide)
                    replace hB2 := hB2.chg hC (by show ¬ _ = _; omega)
                    replace hbw := bset hbw hC (by omega)
                    have hz_37 := hC.size
                    replace hB5 := hB_
                    clear hC hB_
                    replace hSt := hSt.snoc (l := chksOf k ((s.take n).drop (p + 2 + m + 4))) (by rw [chksOf_length]; exact hRu)
                    refine Wn ?_
                    refine bN ?_
                    refine tN ?_
                    refine W_reg ?_
                    refine sm rfl rfl ?_
                    refine st (X.add64 rfl rfl (by omega)) rfl ?_
                    refine sa rfl rfl ?_
                    refine Wn ?_
                    refine tN ⟨_, _, ?_, ⟨i + 1, p + 2 + m + 4 + 36 * k, cs ++ [⟨(s.take (p + 2 + m)).drop (p + 2), ((s.getD p 0).toNat : Int) % 128, decide ((128 : Int) ≤ ((s.getD p 0).toNat : Int))⟩], ls ++ [chksOf k ((s.take n).drop (p + 2 + m + 4))], vc', vr', ur ++ [.slice a5 k c5], rfl, rfl, by omega, by omega, colsP_next (by omega) hpp hcy, by rw [List.length_append, hcl]; rfl, by rw [List.length_append, hll]; rfl, (fun c hc => by rcases List.mem_append.1 hc with hc | hc; exact hcn c hc; simp at hc; subst hc; simp; omega), hB5, hB2, by rw [List.flatMap_append]; exact hRc, hRs, hSt, hOc, hOs, hbw⟩, ⟨rfl, rfl, rfl, rfl, rfl, rfl, trivial⟩⟩
                    omega
        · first | replace h42 := of_decide_eq_false h42 | replace h42 := of_decide_eq_true (notF h42) | replace h42 := notF h42 | skip
          have hend := colsP_end (by omega) hpp
          have hpar : p = n → partsP ((bodyOf s).drop 4) = some ⟨num (s.drop 4), num (s.drop 8), cs, ls⟩ := fun e => by unfold bodyOf; rw [← hn, parts_ix s n (by omega), hend, e, List.drop_of_length_le (by rw [List.length_take]; omega)]
          refine W_exit (tE (tE (bH ?_)))
          refine tN ?_
          refine W_seq ?_
          refine W_rs ?_
          refine sm rfl rfl ?_
          refine sm rfl rfl ?_
          refine st (X.neq rfl rfl) rfl ?_
          refine sb rfl rfl (fun h136 => ?_) (fun h136 => ?_)
          · first | replace h136 := of_decide_eq_true h136 | replace h136 := of_decide_eq_false (notT h136) | replace h136 := notT h136 | skip
            refine gN (g := 136) rfl rfl rfl rfl ?_
            refine gN (g := 136) rfl rfl rfl rfl ?_
            refine gN (g := 136) rfl rfl rfl rfl ?_
            refine st (X.pickT rfl rfl) rfl ?_
            refine Wn ?_
            refine tN ?_
            refine W_yes rfl (rfl) ?_
            refine W_rs ?_
            refine st (X.bld rfl (brman0 _)) rfl ?_
            refine ssBN rfl rfl hB2 siz32 rfl rfl (fun w41 hB_ hc_ => ?_)
            replace hB2 := hB_
            clear hB_
            replace hB5 := hB5.chg hc_ (by first | (show ¬ _ = _; omega) | (intro k_ hk_; simp [Value.ownBlock] at hk_; subst hk_; show ¬ _ = _; omega))
            replace hbw := bset hbw hc_ (by omega)
            have hz_w41 := hc_.size
            clear hc_
            refine sa rfl rfl ?_
            refine Wn ?_
            refine tN ?_
            refine W_ret (tR ?_)
            refine (rCT rfl rfl hB2 Tryd.underlying32 rfl siz32 rfl ⟨hbw, ?_⟩).1
            rw [hno _ hend (fun a b e => by simp only [Option.some.injEq, Prod.mk.injEq] at e; have := congrArg List.length e.2.2; rw [List.length_drop, List.length_take, List.length_nil] at this; omega)]; rfl
          · first | replace h136 := of_decide_eq_false h136 | replace h136 := of_decide_eq_true (notF h136) | replace h136 := notF h136 | skip
            refine gY (g := 136) rfl rfl rfl ?_
            refine st (X.ldBN rfl hB5 Tryd.underlying32 rfl siz32) rfl ?_
            refine gY (g := 136) rfl rfl rfl ?_
            refine sc _ Tryd.func25 rfl (by kernel_rfl) rfl rfl ((RefCheck_any ⟨num (s.drop 4), num (s.drop 8), cs, ls⟩ vc vr _ ⟨by show Reads _ _ _ cs.length _; rw [hcl]; exact hRc.reads, hcn⟩ (hSt.at_ (by rw [hll]; exact hRs)) (hT.bel hbw)).mono ?_)
            rintro e_ w42 ⟨rfl, hb⟩
            refine cR ?_
            have hpend := hb
            replace hbw := bthen hbw hb
            replace hB5 := hB5.bel hb
            replace hB2 := hB2.bel hb
            have hz_w42 := hb.size
            clear hb
            refine gY (g := 136) rfl rfl rfl ?_
            refine st (X.neq rfl rfl) rfl ?_
            refine st (X.pickF rfl rfl) rfl ?_
            refine Wn ?_
            refine tN ?_
            refine W_if rfl (fun h140 => ?_) (fun h140 => ?_)
            · first | replace h140 := of_decide_eq_true h140 | replace h140 := of_decide_eq_false (notT h140) | replace h140 := notT h140 | skip
              refine W_rs ?_
              refine st (X.bld rfl (brman0 _)) rfl ?_
              refine ssBN rfl rfl hB2 siz32 rfl rfl (fun w43 hB_ hc_ => ?_)
              replace hB2 := hB_
              clear hB_
              replace hB5 := hB5.chg hc_ (by first | (show ¬ _ = _; omega) | (intro k_ hk_; simp [Value.ownBlock] at hk_; subst hk_; show ¬ _ = _; omega))
              replace hbw := bset hbw hc_ (by omega)
              have hz_w43 := hc_.size
              clear hc_
              refine sa rfl rfl ?_
              refine Wn ?_
              refine tN ?_
              replace hRc := hRc.bel hpend
              replace hRs := hRs.bel hpend
              replace hSt := hSt.bel hpend
              clear hpend
              refine W_ret (tR ?_)
              refine (rCT rfl rfl hB2 Tryd.underlying32 rfl siz32 rfl ⟨hbw, ?_⟩).1
              rw [dec_err12 (by omega) h4 h3 (.inr ⟨_, hpar (by omega), h140⟩)]; rfl
            · first | replace h140 := of_decide_eq_false h140 | replace h140 := of_decide_eq_true (notF h140) | replace h140 := notF h140 | skip
              refine W_skip ?_
              refine tN ?_
              refine W_rs ?_
              refine st (X.ldBN rfl hB5 Tryd.underlying32 rfl siz32) rfl ?_
              replace hRc := hRc.bel hpend
              replace hRs := hRs.bel hpend
              replace hSt := hSt.bel hpend
              clear hpend
              refine ssBN rfl rfl hB2 siz32 rfl (man_one hRc.one hRs.one) (fun w44 hB_ hC => ?_)
              replace hRc := hRc.chg hC (fun k hk e => hRc.ne_ hB2 (by decide) (by rw [← e]; exact hk))
              replace hRs := hRs.chg hC (fun k hk e => hRs.ne_ hB2 (by decide) (by rw [← e]; exact hk))
              replace hSt := hSt.chgB hC hB2 (by decide)
              replace hbw := bset hbw hC (by omega)
              replace hB2 := hB_
              clear hB_ hC
              refine sa rfl rfl ?_
              refine Wn ?_
              refine tN ?_
              refine W_ret ?_
              refine (rCT rfl rfl hB2 Tryd.underlying32 rfl siz32 rfl ⟨hbw, ?_⟩).1
              rw [show decodeM s = .ok ⟨num (s.drop 4), num (s.drop 8), cs, ls⟩ by unfold decodeM; rw [if_neg (by omega), if_neg (fun h => h h4), if_neg (fun h => h h3), hpar (by omega)]; show (if _ then _ else _) = _; rw [if_pos (Classical.not_not.1 h140)]]
              exact ⟨_, _, rfl, ⟨by show Reads _ _ _ cs.length _; rw [hcl]; exact hRc.reads, hcn⟩, hSt.at_ (by rw [hll]; exact hRs)⟩
end Go.Proofs.YtnagmpnpgekhfaaDoor
