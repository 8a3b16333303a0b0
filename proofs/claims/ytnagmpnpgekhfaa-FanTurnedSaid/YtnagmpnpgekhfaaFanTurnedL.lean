/- The laws FanTurned, FanBack. -/
import Derived.Test.YtnagmpnpgekhfaaFanTellsL
import Derived.Test.YtnagmpnpgekhfaaTree
namespace Go.Proofs.Ytnagmpnpgekhfaa
open Go.RowKit
theorem reads_zero {w : World} {k c : Nat} {a : Option Addr} (hc : c ≤ maxLen) : Reads w k (.slice a 0 c) 0 [] := ⟨by simp, a, c, rfl, Nat.zero_le _, hc, fun h => absurd h (by omega)⟩
theorem num_inj4 {a b : List UInt8} (ha : a.length = 4) (hb : b.length = 4) (h : num a = num b) : a = b := by
  have h1 := four_num a (by omega)
  have h2 := four_num b (by omega)
  rw [List.drop_of_length_le (by omega), List.append_nil] at h1 h2
  rw [← h1, ← h2, h]
theorem turned_bad {L : List Ent} (h32 : S32 L) {p : Nat} (hp : p < (encM L).length) {c : UInt8} (hc : c ≠ (encM L).getD p 0) (hl : L.length ≤ 65536) : (decM ((encM L).take p ++ [c] ++ (encM L).drop (p + 1))).2 ≠ 0 := by
  intro h0
  have hchk := (dec_ok h0).1
  obtain ⟨c1, _, _, _, c5⟩ := check_ok hchk
  obtain ⟨d1, _, _, _, d5⟩ := check_ok (enc_check h32 hl)
  obtain ⟨s, hs⟩ : ∃ s, encM L = s := ⟨_, rfl⟩
  rw [hs] at hp hc c1 c5 d1 d5
  obtain ⟨b, hb⟩ : ∃ b, s.getD p 0 = b := ⟨_, rfl⟩
  rw [hb] at hc
  have hsb : s = s.take p ++ b :: s.drop (p + 1) := by
    have e : s.drop p = b :: s.drop (p + 1) := by
      rw [List.drop_eq_getElem_cons hp, ← hb, List.getD_eq_getElem?_getD, List.getElem?_eq_getElem hp]
      rfl
    rw [← e, List.take_append_drop]
  obtain ⟨A, hA⟩ : ∃ A, s.take p = A := ⟨_, rfl⟩
  obtain ⟨B, hB⟩ : ∃ B, s.drop (p + 1) = B := ⟨_, rfl⟩
  have hAl : A.length = p := by rw [← hA, List.length_take]; omega
  rw [hA, hB] at hsb c1 c5
  have et : A ++ [c] ++ B = A ++ c :: B := by simp
  rw [et] at c1 c5
  have hlen : (A ++ c :: B).length = s.length := by rw [hsb]; simp
  rw [hlen] at c1 c5
  obtain ⟨n, hn⟩ : ∃ n, s.length - 4 = n := ⟨_, rfl⟩
  rw [hn] at c5 d5
  have hs2 : (A ++ b :: B).length = s.length := by rw [← hsb]
  rw [hsb] at d5
  rcases Nat.lt_or_ge p n with k | k
  · have e1 : ∀ z : UInt8, (A ++ z :: B).drop n = B.drop (n - p - 1) := fun z => by
      rw [List.drop_append, hAl, List.drop_of_length_le (by omega), List.nil_append, show n - p = (n - p - 1) + 1 by omega, List.drop_succ_cons]
      rfl
    have e2 : ∀ z : UInt8, (A ++ z :: B).take n = A ++ z :: B.take (n - p - 1) := fun z => by
      rw [List.take_append, hAl, List.take_of_length_le (by omega), show n - p = (n - p - 1) + 1 by omega, List.take_succ_cons]
      rfl
    rw [e1, e2] at c5 d5
    have h := c5.symm.trans d5
    have h2 : Crc.crc (A ++ c :: B.take (n - p - 1)) = Crc.crc (A ++ b :: B.take (n - p - 1)) := UInt32.toNat_inj.1 h
    exact hc (Crc.crc_turned A _ h2)
  · have e2 : ∀ z : UInt8, (A ++ z :: B).take n = A.take n := fun z => by
      rw [List.take_append, show n - A.length = 0 by omega, List.take_zero, List.append_nil]
    rw [e2] at c5 d5
    have h := c5.trans d5.symm
    have e := num_inj4 (by rw [List.length_drop, hlen]; omega) (by rw [List.length_drop, hs2]; omega) h
    have e3 : ∀ z : UInt8, (A ++ z :: B).drop n = A.drop n ++ z :: B := fun z => by
      rw [List.drop_append, show n - A.length = 0 by omega, List.drop_zero]
    rw [e3, e3] at e
    have := List.append_cancel_left e
    injection this with e4
    exact hc e4
theorem cut_bad {L : List Ent} (h32 : S32 L) {p : Nat} (hp : p < (encM L).length) (hl : L.length ≤ 65536) : (decM ((encM L).take p)).2 = 10 := by
  have hlen := encM_length h32
  have hul : ((encM L).take p).length = p := by rw [List.length_take]; omega
  have hc : checkM ((encM L).take p) = 10 := by
    unfold checkM
    by_cases h1 : p < 1032
    · rw [if_pos (by omega)]
    · rw [if_neg (by omega)]
      have hk : ((encM L).take p).take 4 = kindB := by rw [List.take_take, Nat.min_eq_left (by omega), enc_kind]
      have hn : num (((encM L).take p).drop 1024) = L.length := by rw [List.drop_take, num_take _ _ (by omega), enc_num hl]
      rw [if_neg (by rw [hk]; simp), hn, if_neg (by omega), if_pos (by omega)]
  rw [dec_check (by rw [hc]; decide), hc]
theorem xor_ne {b c : UInt8} (h : c ≠ 0) : b ^^^ c ≠ b := fun e => h (by
  have := congrArg (b ^^^ ·) e
  simp only [← UInt8.xor_assoc, UInt8.xor_self, UInt8.zero_xor] at this
  exact this)
set_option maxRecDepth 10000 in
set_option maxHeartbeats 1000000 in
theorem FanTurned_walk (w : World) (v : Value) (l : List Ent) (h : EntsAt w v l) (h32 : S32 l) (i : Int) (b : UInt8) : Calls Try.prog 11 #[v, .int .i64 i, .int .u8 b.toNat] w fun e w' => e = .returned (.bool true) ∧ Below w.heap.size w w' := by
  obtain ⟨a, cp, rfl, hn, hcp⟩ := h.shape
  refine W_enter (args := [.slice a l.length cp, .int .i64 i, .int .u8 b.toNat]) 87 Try.func11 rfl rfl rfl ?_
  refine W_sub [(0, .slice a l.length cp), (1, .int .i64 i), (2, .int .u8 b.toNat)] ?_ ⟨rfl, rfl, rfl, trivial⟩
  have hbw := Below.refl w.heap.size w
  refine W_rs ?_
  refine sa rfl rfl ?_
  refine Wn ?_
  refine tN ?_
  refine W_seq ?_
  refine W_rs ?_
  refine sm rfl rfl ?_
  refine st (X.lenL rfl rfl Try.underlying69) rfl ?_
  refine st (X.gtr rfl rfl) rfl ?_
  refine Wn ?_
  refine tN ?_
  refine W_if rfl (fun h16 => ?_) (fun h16 => ?_)
  · first | replace h16 := of_decide_eq_true h16 | replace h16 := of_decide_eq_false (notT h16) | replace h16 := notT h16 | skip
    refine W_rs ?_
    refine sc _ Try.func44 rfl (by kernel_rfl) rfl rfl ((fawake_any _).mono ?_)
    rintro e_ w1 ⟨rfl, hb⟩
    refine cR ?_
    replace hbw := bthen hbw hb
    have hz_w1 := hb.size
    clear hb
    refine sa rfl rfl ?_
    refine Wn ?_
    refine tN ?_
    refine W_ret (tR ?_)
    exact (rT rfl rfl ⟨rfl, hbw⟩).1
  · first | replace h16 := of_decide_eq_false h16 | replace h16 := of_decide_eq_true (notF h16) | replace h16 := notF h16 | skip
    have hml := make_length l
    have hL32 := make_S32 h32
    refine W_skip ?_
    refine tN ?_
    refine W_rs ?_
    refine sm rfl rfl ?_
    refine sc _ Try.func45 rfl (by kernel_rfl) rfl rfl ((Make_any _ l _ (h.bel hbw) h32 (by omega)).mono ?_)
    rintro e_ w2 ⟨vm, rfl, hE, hb⟩
    refine cR ?_
    replace hbw := bthen hbw hb
    have hz_w2 := hb.size
    clear hb
    obtain ⟨am, cm, rfl, _, _⟩ := hE.shape
    refine sm rfl rfl ?_
    refine st (X.ext rfl rfl) rfl ?_
    refine st (X.ext rfl rfl) rfl ?_
    refine salA inf71 rfl (fun g7 w3 hB7 hg7 hb hl7 => ?_)
    have hpend := hb
    replace hbw := bthen hbw hb
    have hz_w3 := hb.size
    clear hb
    refine ssBN rfl rfl hB7 siz71 rfl rfl (fun w4 hB_ hc_ => ?_)
    replace hB7 := hB_
    clear hB_
    replace hpend := bset hpend hc_ (by omega)
    replace hbw := bset hbw hc_ (by omega)
    have hz_w4 := hc_.size
    clear hc_
    refine sa rfl rfl ?_
    refine Wn ?_
    refine tN ?_
    refine W_rs ?_
    refine st (X.ldBN rfl hB7 Try.underlying71 rfl siz71) rfl ?_
    replace hE := hE.bel hpend
    clear hpend
    refine sc _ Try.func48 rfl (by kernel_rfl) rfl rfl ((Encode_any _ (makeM l).1 _ hE hL32 (by omega)).mono ?_)
    rintro e_ w5 ⟨rfl, hb⟩
    refine cR ?_
    have hpend := hb
    replace hbw := bthen hbw hb
    replace hB7 := hB7.bel hb
    have hz_w5 := hb.size
    clear hb
    clear hpend
    refine sa rfl rfl ?_
    refine Wn ?_
    refine tN ?_
    refine W_seq ?_
    refine W_rs ?_
    refine sm rfl rfl ?_
    refine st (X.neq rfl rfl) rfl ?_
    refine sb rfl rfl (fun h27 => ?_) (fun h27 => ?_)
    · first | replace h27 := of_decide_eq_true h27 | replace h27 := of_decide_eq_false (notT h27) | replace h27 := notT h27 | skip
      refine gN (g := 27) rfl rfl rfl rfl ?_
      refine gN (g := 27) rfl rfl rfl rfl ?_
      refine st (X.pickT rfl rfl) rfl ?_
      refine sm rfl rfl ?_
      refine gN (g := 31) rfl rfl rfl rfl ?_
      refine gN (g := 31) rfl rfl rfl rfl ?_
      refine gN (g := 31) rfl rfl rfl rfl ?_
      refine gN (g := 31) rfl rfl rfl rfl ?_
      refine st (X.pickT rfl rfl) rfl ?_
      refine sm rfl rfl ?_
      refine gN (g := 37) rfl rfl rfl rfl ?_
      refine gN (g := 37) rfl rfl rfl rfl ?_
      refine st (X.pickT rfl rfl) rfl ?_
      refine Wn ?_
      refine tN ?_
      refine W_yes rfl (rfl) ?_
      refine W_rs ?_
      refine sc _ Try.func44 rfl (by kernel_rfl) rfl rfl ((fawake_any _).mono ?_)
      rintro e_ w6 ⟨rfl, hb⟩
      refine cR ?_
      replace hbw := bthen hbw hb
      replace hB7 := hB7.bel hb
      have hz_w6 := hb.size
      clear hb
      refine sa rfl rfl ?_
      refine Wn ?_
      refine tN ?_
      refine W_ret (tR ?_)
      exact (rT rfl rfl ⟨rfl, hbw⟩).1
    · first | replace h27 := of_decide_eq_false h27 | replace h27 := of_decide_eq_true (notF h27) | replace h27 := notF h27 | skip
      refine gY (g := 27) rfl rfl rfl ?_
      refine sm rfl rfl ?_
      refine gY (g := 27) rfl rfl rfl ?_
      refine st (X.lss rfl rfl) rfl ?_
      refine st (X.pickF rfl rfl) rfl ?_
      refine sb rfl rfl (fun h31 => ?_) (fun h31 => ?_)
      · first | replace h31 := of_decide_eq_true h31 | replace h31 := of_decide_eq_false (notT h31) | replace h31 := notT h31 | skip
        refine gN (g := 31) rfl rfl rfl rfl ?_
        refine gN (g := 31) rfl rfl rfl rfl ?_
        refine gN (g := 31) rfl rfl rfl rfl ?_
        refine gN (g := 31) rfl rfl rfl rfl ?_
        refine st (X.pickT rfl rfl) rfl ?_
        refine sm rfl rfl ?_
        refine gN (g := 37) rfl rfl rfl rfl ?_
        refine gN (g := 37) rfl rfl rfl rfl ?_
        refine st (X.pickT rfl rfl) rfl ?_
        refine Wn ?_
        refine tN ?_
        refine W_yes rfl (rfl) ?_
        refine W_rs ?_
        refine sc _ Try.func44 rfl (by kernel_rfl) rfl rfl ((fawake_any _).mono ?_)
        rintro e_ w7 ⟨rfl, hb⟩
        refine cR ?_
        replace hbw := bthen hbw hb
        replace hB7 := hB7.bel hb
        have hz_w7 := hb.size
        clear hb
        refine sa rfl rfl ?_
        refine Wn ?_
        refine tN ?_
        refine W_ret (tR ?_)
        exact (rT rfl rfl ⟨rfl, hbw⟩).1
      · first | replace h31 := of_decide_eq_false h31 | replace h31 := of_decide_eq_true (notF h31) | replace h31 := notF h31 | skip
        refine gY (g := 31) rfl rfl rfl ?_
        refine sm rfl rfl ?_
        refine gY (g := 31) rfl rfl rfl ?_
        refine sm rfl rfl ?_
        refine gY (g := 31) rfl rfl rfl ?_
        refine st (X.lenS rfl rfl Try.underlying9) rfl ?_
        refine gY (g := 31) rfl rfl rfl ?_
        refine st (X.geq rfl rfl) rfl ?_
        refine st (X.pickF rfl rfl) rfl ?_
        refine sb rfl rfl (fun h37 => ?_) (fun h37 => ?_)
        · first | replace h37 := of_decide_eq_true h37 | replace h37 := of_decide_eq_false (notT h37) | replace h37 := notT h37 | skip
          refine gN (g := 37) rfl rfl rfl rfl ?_
          refine gN (g := 37) rfl rfl rfl rfl ?_
          refine st (X.pickT rfl rfl) rfl ?_
          refine Wn ?_
          refine tN ?_
          refine W_yes rfl (rfl) ?_
          refine W_rs ?_
          refine sc _ Try.func44 rfl (by kernel_rfl) rfl rfl ((fawake_any _).mono ?_)
          rintro e_ w8 ⟨rfl, hb⟩
          refine cR ?_
          replace hbw := bthen hbw hb
          replace hB7 := hB7.bel hb
          have hz_w8 := hb.size
          clear hb
          refine sa rfl rfl ?_
          refine Wn ?_
          refine tN ?_
          refine W_ret (tR ?_)
          exact (rT rfl rfl ⟨rfl, hbw⟩).1
        · first | replace h37 := of_decide_eq_false h37 | replace h37 := of_decide_eq_true (notF h37) | replace h37 := notF h37 | skip
          refine gY (g := 37) rfl rfl rfl ?_
          refine sm rfl rfl ?_
          refine gY (g := 37) rfl rfl rfl ?_
          refine st (X.eql rfl rfl) rfl ?_
          refine st (X.pickF rfl rfl) rfl ?_
          refine Wn ?_
          refine tN ?_
          refine W_if rfl (fun h40 => ?_) (fun h40 => ?_)
          · first | replace h40 := of_decide_eq_true h40 | replace h40 := of_decide_eq_false (notT h40) | replace h40 := notT h40 | skip
            refine W_rs ?_
            refine sc _ Try.func44 rfl (by kernel_rfl) rfl rfl ((fawake_any _).mono ?_)
            rintro e_ w9 ⟨rfl, hb⟩
            refine cR ?_
            replace hbw := bthen hbw hb
            replace hB7 := hB7.bel hb
            have hz_w9 := hb.size
            clear hb
            refine sa rfl rfl ?_
            refine Wn ?_
            refine tN ?_
            refine W_ret (tR ?_)
            exact (rT rfl rfl ⟨rfl, hbw⟩).1
          · first | replace h40 := of_decide_eq_false h40 | replace h40 := of_decide_eq_true (notF h40) | replace h40 := notF h40 | skip
            obtain ⟨E, hEe⟩ : ∃ E, encM (makeM l).1 = E := ⟨_, rfl⟩
            have hEl := encM_length hL32
            rw [hEe] at hEl h37 ⊢
            obtain ⟨p, rfl⟩ : ∃ p : Nat, i = p := ⟨i.toNat, by omega⟩
            have hpE : p < E.length := by omega
            have hbne : b ≠ 0 := fun e => h40 (by rw [e]; rfl)
            have htb := turned_bad hL32 (p := p) (by rw [hEe]; exact hpE) (c := E.getD p 0 ^^^ b) (by rw [hEe]; exact xor_ne hbne) (by omega)
            have hcb := cut_bad hL32 (p := p) (by rw [hEe]; exact hpE) (by omega)
            rw [hEe] at htb hcb
            have htz := dec_bad htb
            refine W_skip ?_
            refine tN ?_
            refine W_trsN (fun _ => True) (.yes 0 (.yes 1 (.yes 2 (.yes 3 (.yes 4 (.yes 5 (.yes 6 (.yes 7 (.yes 11 (.yes 12 (.yes 13 (.yes 14 (.pick (.alt 8 (.pick (.alt 9 (.yes 10 (.yes 15 (.pick (.alt 16 (.yes 17 (.yes 18 (.yes 19 (.pick (.alt 20 (.pick (.alt 21 (.yes 22 (.nil)) (.no))) (.no)))))) (.alt 20 (.pick (.alt 16 (.yes 17 (.yes 18 (.yes 19 (.pick (.alt 21 (.yes 22 (.nil)) (.no)))))) (.no))) (.no)))))) (.alt 20 (.pick (.alt 9 (.yes 10 (.yes 15 (.pick (.alt 16 (.yes 17 (.yes 18 (.yes 19 (.pick (.alt 21 (.yes 22 (.nil)) (.no)))))) (.no))))) (.no))) (.no)))) (.alt 20 (.pick (.alt 8 (.pick (.alt 9 (.yes 10 (.yes 15 (.pick (.alt 16 (.yes 17 (.yes 18 (.yes 19 (.pick (.alt 21 (.yes 22 (.nil)) (.no)))))) (.no))))) (.no))) (.no))) (.no)))))))))))))))) (by kernel_rfl) (by kernel_rfl) (trivial) ?_
            obtain ⟨w10, hw_⟩ : ∃ w10 : World, w10 = World.drew w5 := ⟨_, rfl⟩
            rw [← hw_]
            have hb : Below w5.heap.size w5 w10 := by rw [hw_]; exact bdrew (Below.refl _ _)
            clear hw_
            have hS : True := trivial
            replace hbw := bthen hbw hb
            replace hB7 := hB7.bel hb
            have hz_w10 := hb.size
            clear hb
            refine uY rfl (fun W_ hW_ => (X.move rfl)) rfl ?_
            refine uY rfl (fun W_ hW_ => (X.move rfl)) rfl ?_
            refine uY rfl (fun W_ hW_ => (X.toS rfl rfl Try.underlying9 rfl (by omega))) rfl ?_
            refine uY rfl (fun W_ hW_ => (X.move rfl)) rfl ?_
            refine uY rfl (fun W_ hW_ => (X.move rfl)) rfl ?_
            refine uY rfl (fun W_ hW_ => (X.idxS rfl rfl Try.underlying9 rfl (by omega))) rfl ?_
            refine uY rfl (fun W_ hW_ => (X.move rfl)) rfl ?_
            refine uY rfl (fun W_ hW_ => (X.bits (by simp) rfl rfl (xor_u8 _ _))) rfl ?_
            refine uY rfl (fun W_ hW_ => (X.move rfl)) rfl ?_
            refine uY rfl (fun W_ hW_ => (X.move rfl)) rfl ?_
            refine uY rfl (fun W_ hW_ => (X.add64 rfl rfl (by omega))) rfl ?_
            refine uY rfl (fun W_ hW_ => (X.fromS (i := p + 1) rfl rfl Try.underlying9 rfl (by omega))) rfl ?_
            refine uP (uA rfl (fun Q_ hQ_ hP_ => ?_) (uA rfl (fun Q_ hQ_ hP_ => ?_) u0))
            · refine sbs1 rfl Try.underlying81 inf5 rfl rfl (by decide) (by decide) rfl (fun g51 w11 hR51 hg51 hb => ?_)
              replace hbw := bthen hbw hb
              replace hB7 := hB7.bel hb
              have hz_w11 := hb.size
              clear hb
              have hl51 := hR51.blt (by decide)
              refine Wn (hQ_ _ _ trivial ?_)
              clear hQ_ hP_ Q_
              refine uP (uA rfl (fun Q_ hQ_ hP_ => ?_) (uA rfl (fun Q_ hQ_ hP_ => ?_) u0))
              · refine st (X.strOf (s := [E.getD p 0 ^^^ b]) rfl Try.underlying81 Try.underlying5 Try.underlying9 hR51.reads) rfl ?_
                refine Wn (hQ_ _ _ trivial ?_)
                clear hQ_ hP_ Q_
                refine uY rfl (fun W_ hW_ => (X.cat rfl rfl (by rw [List.length_take]; simp; omega))) rfl ?_
                refine uY rfl (fun W_ hW_ => (X.cat rfl rfl (by simp; omega))) rfl ?_
                refine uP (uA rfl (fun Q_ hQ_ hP_ => ?_) (uA rfl (fun Q_ hQ_ hP_ => ?_) u0))
                · refine sc _ Try.func50 rfl (by kernel_rfl) rfl rfl ((Decode_any (E.take p ++ [E.getD p 0 ^^^ b] ++ E.drop (p + 1)) _ (by simp; omega)).mono ?_)
                  rintro e_ w12 ⟨vd, rfl, hD, hb⟩
                  refine cR ?_
                  replace hbw := bthen hbw hb
                  replace hB7 := hB7.bel hb
                  replace hR51 := hR51.bel hb
                  have hz_w12 := hb.size
                  clear hb
                  refine Wn (hQ_ _ _ trivial ?_)
                  clear hQ_ hP_ Q_
                  obtain ⟨ad, cd, rfl, _, hcd⟩ := hD.shape
                  clear hD
                  rw [htz]
                  refine uY rfl (fun W_ hW_ => (X.move rfl)) rfl ?_
                  refine uY rfl (fun W_ hW_ => (X.ext rfl rfl)) rfl ?_
                  refine uY rfl (fun W_ hW_ => (X.ext rfl rfl)) rfl ?_
                  refine uP (uA rfl (fun Q_ hQ_ hP_ => ?_) u0)
                  refine salA inf71 rfl (fun g10 w13 hB10 hg10 hb hl10 => ?_)
                  replace hbw := bthen hbw hb
                  replace hB7 := hB7.bel hb
                  replace hR51 := hR51.bel hb
                  have hz_w13 := hb.size
                  clear hb
                  refine Wn (hQ_ _ _ trivial ?_)
                  clear hQ_ hP_ Q_
                  refine uP (uA rfl (fun Q_ hQ_ hP_ => ?_) u0)
                  refine ssBN rfl rfl hB10 siz71 rfl rfl (fun w14 hB_ hc_ => ?_)
                  replace hB10 := hB_
                  clear hB_
                  replace hB7 := hB7.chg hc_ (by first | (show ¬ _ = _; omega) | (intro k_ hk_; simp [Value.ownBlock] at hk_; subst hk_; show ¬ _ = _; omega))
                  replace hR51 := hR51.chg hc_ (by first | (show ¬ _ = _; omega) | (intro k_ hk_; simp [Value.ownBlock] at hk_; subst hk_; show ¬ _ = _; omega))
                  replace hbw := bset hbw hc_ (by omega)
                  have hz_w14 := hc_.size
                  clear hc_
                  refine Wn (hQ_ _ _ trivial ?_)
                  clear hQ_ hP_ Q_
                  refine uY rfl (fun W_ hW_ => (X.assign rfl)) rfl ?_
                  refine uN ?_
                  refine nN ?_
                  refine W_rs ?_
                  refine sm rfl rfl ?_
                  refine sm rfl rfl ?_
                  refine st (X.toS rfl rfl Try.underlying9 rfl (by omega)) rfl ?_
                  refine sc _ Try.func50 rfl (by kernel_rfl) rfl rfl ((Decode_any (E.take p) _ (by rw [List.length_take]; omega)).mono ?_)
                  rintro e_ w15 ⟨vc, rfl, hC0, hb⟩
                  refine cR ?_
                  replace hbw := bthen hbw hb
                  replace hB7 := hB7.bel hb
                  replace hR51 := hR51.bel hb
                  replace hB10 := hB10.bel hb
                  have hz_w15 := hb.size
                  clear hb
                  obtain ⟨ac, cc, rfl, _, _⟩ := hC0.shape
                  refine sm rfl rfl ?_
                  refine st (X.ext rfl rfl) rfl ?_
                  refine st (X.ext rfl rfl) rfl ?_
                  refine salA inf71 rfl (fun g12 w16 hB12 hg12 hb hl12 => ?_)
                  replace hbw := bthen hbw hb
                  replace hB7 := hB7.bel hb
                  replace hR51 := hR51.bel hb
                  replace hB10 := hB10.bel hb
                  have hz_w16 := hb.size
                  clear hb
                  refine ssBN rfl rfl hB12 siz71 rfl rfl (fun w17 hB_ hc_ => ?_)
                  replace hB12 := hB_
                  clear hB_
                  replace hB7 := hB7.chg hc_ (by first | (show ¬ _ = _; omega) | (intro k_ hk_; simp [Value.ownBlock] at hk_; subst hk_; show ¬ _ = _; omega))
                  replace hR51 := hR51.chg hc_ (by first | (show ¬ _ = _; omega) | (intro k_ hk_; simp [Value.ownBlock] at hk_; subst hk_; show ¬ _ = _; omega))
                  replace hB10 := hB10.chg hc_ (by first | (show ¬ _ = _; omega) | (intro k_ hk_; simp [Value.ownBlock] at hk_; subst hk_; show ¬ _ = _; omega))
                  replace hbw := bset hbw hc_ (by omega)
                  have hz_w17 := hc_.size
                  clear hc_
                  refine sa rfl rfl ?_
                  refine Wn ?_
                  refine tN ?_
                  refine W_rs ?_
                  refine sm rfl rfl ?_
                  refine st (X.neq rfl rfl) rfl ?_
                  refine sbY rfl (decide_eq_true htb) rfl ?_
                  refine gY (g := 71) rfl rfl rfl ?_
                  refine st (X.ldBN rfl hB10 Try.underlying71 rfl siz71) rfl ?_
                  refine gY (g := 71) rfl rfl rfl ?_
                  refine sc _ Try.func51 rfl (by kernel_rfl) rfl rfl ((ILen_any _ [] _ (reads_zero hcd)).mono ?_)
                  rintro e_ w18 ⟨rfl, hb⟩
                  refine cR ?_
                  replace hbw := bthen hbw hb
                  replace hB7 := hB7.bel hb
                  replace hR51 := hR51.bel hb
                  replace hB10 := hB10.bel hb
                  replace hB12 := hB12.bel hb
                  have hz_w18 := hb.size
                  clear hb
                  refine gY (g := 71) rfl rfl rfl ?_
                  refine st (X.eql rfl rfl) rfl ?_
                  refine st (X.pickT rfl rfl) rfl ?_
                  refine sbY rfl (rfl) rfl ?_
                  refine gY (g := 76) rfl rfl rfl ?_
                  refine sm rfl rfl ?_
                  refine gY (g := 76) rfl rfl rfl ?_
                  refine st (X.eql rfl rfl) rfl ?_
                  refine gY (g := 76) rfl rfl rfl ?_
                  refine sbY rfl (decide_eq_true hcb) rfl ?_
                  refine gN (g := 79) rfl rfl rfl rfl ?_
                  refine gN (g := 79) rfl rfl rfl rfl ?_
                  refine gY (g := 76) rfl rfl rfl ?_
                  refine st (X.pickT rfl rfl) rfl ?_
                  refine st (X.pickT rfl rfl) rfl ?_
                  refine sm rfl rfl ?_
                  refine gY (g := 84) rfl rfl rfl ?_
                  refine sc _ Try.func44 rfl (by kernel_rfl) rfl rfl ((fawake_any _).mono ?_)
                  rintro e_ w19 ⟨rfl, hb⟩
                  refine cR ?_
                  replace hbw := bthen hbw hb
                  replace hB7 := hB7.bel hb
                  replace hR51 := hR51.bel hb
                  replace hB10 := hB10.bel hb
                  replace hB12 := hB12.bel hb
                  have hz_w19 := hb.size
                  clear hb
                  refine st (X.pickT rfl rfl) rfl ?_
                  refine sa rfl rfl ?_
                  refine Wn ?_
                  refine tN ?_
                  refine W_ret ?_
                  exact (rT rfl rfl ⟨rfl, hbw⟩).1
                · refine salA inf71 rfl (fun g10 w20 hB10 hg10 hb hl10 => ?_)
                  replace hbw := bthen hbw hb
                  replace hB7 := hB7.bel hb
                  replace hR51 := hR51.bel hb
                  have hz_w20 := hb.size
                  clear hb
                  refine Wn (hQ_ _ _ trivial ?_)
                  clear hQ_ hP_ Q_
                  refine uP (uA rfl (fun Q_ hQ_ hP_ => ?_) u0)
                  refine sc _ Try.func50 rfl (by kernel_rfl) rfl rfl ((Decode_any (E.take p ++ [E.getD p 0 ^^^ b] ++ E.drop (p + 1)) _ (by simp; omega)).mono ?_)
                  rintro e_ w21 ⟨vd, rfl, hD, hb⟩
                  refine cR ?_
                  replace hbw := bthen hbw hb
                  replace hB7 := hB7.bel hb
                  replace hR51 := hR51.bel hb
                  replace hB10 := hB10.bel hb
                  have hz_w21 := hb.size
                  clear hb
                  refine Wn (hQ_ _ _ trivial ?_)
                  clear hQ_ hP_ Q_
                  obtain ⟨ad, cd, rfl, _, hcd⟩ := hD.shape
                  clear hD
                  rw [htz]
                  refine uY rfl (fun W_ hW_ => (X.move rfl)) rfl ?_
                  refine uY rfl (fun W_ hW_ => (X.ext rfl rfl)) rfl ?_
                  refine uY rfl (fun W_ hW_ => (X.ext rfl rfl)) rfl ?_
                  refine uP (uA rfl (fun Q_ hQ_ hP_ => ?_) u0)
                  refine ssBN rfl rfl hB10 siz71 rfl rfl (fun w22 hB_ hc_ => ?_)
                  replace hB10 := hB_
                  clear hB_
                  replace hB7 := hB7.chg hc_ (by first | (show ¬ _ = _; omega) | (intro k_ hk_; simp [Value.ownBlock] at hk_; subst hk_; show ¬ _ = _; omega))
                  replace hR51 := hR51.chg hc_ (by first | (show ¬ _ = _; omega) | (intro k_ hk_; simp [Value.ownBlock] at hk_; subst hk_; show ¬ _ = _; omega))
                  replace hbw := bset hbw hc_ (by omega)
                  have hz_w22 := hc_.size
                  clear hc_
                  refine Wn (hQ_ _ _ trivial ?_)
                  clear hQ_ hP_ Q_
                  refine uY rfl (fun W_ hW_ => (X.assign rfl)) rfl ?_
                  refine uN ?_
                  refine nN ?_
                  refine W_rs ?_
                  refine sm rfl rfl ?_
                  refine sm rfl rfl ?_
                  refine st (X.toS rfl rfl Try.underlying9 rfl (by omega)) rfl ?_
                  refine sc _ Try.func50 rfl (by kernel_rfl) rfl rfl ((Decode_any (E.take p) _ (by rw [List.length_take]; omega)).mono ?_)
                  rintro e_ w23 ⟨vc, rfl, hC0, hb⟩
                  refine cR ?_
                  replace hbw := bthen hbw hb
                  replace hB7 := hB7.bel hb
                  replace hR51 := hR51.bel hb
                  replace hB10 := hB10.bel hb
                  have hz_w23 := hb.size
                  clear hb
                  obtain ⟨ac, cc, rfl, _, _⟩ := hC0.shape
                  refine sm rfl rfl ?_
                  refine st (X.ext rfl rfl) rfl ?_
                  refine st (X.ext rfl rfl) rfl ?_
                  refine salA inf71 rfl (fun g12 w24 hB12 hg12 hb hl12 => ?_)
                  replace hbw := bthen hbw hb
                  replace hB7 := hB7.bel hb
                  replace hR51 := hR51.bel hb
                  replace hB10 := hB10.bel hb
                  have hz_w24 := hb.size
                  clear hb
                  refine ssBN rfl rfl hB12 siz71 rfl rfl (fun w25 hB_ hc_ => ?_)
                  replace hB12 := hB_
                  clear hB_
                  replace hB7 := hB7.chg hc_ (by first | (show ¬ _ = _; omega) | (intro k_ hk_; simp [Value.ownBlock] at hk_; subst hk_; show ¬ _ = _; omega))
                  replace hR51 := hR51.chg hc_ (by first | (show ¬ _ = _; omega) | (intro k_ hk_; simp [Value.ownBlock] at hk_; subst hk_; show ¬ _ = _; omega))
                  replace hB10 := hB10.chg hc_ (by first | (show ¬ _ = _; omega) | (intro k_ hk_; simp [Value.ownBlock] at hk_; subst hk_; show ¬ _ = _; omega))
                  replace hbw := bset hbw hc_ (by omega)
                  have hz_w25 := hc_.size
                  clear hc_
                  refine sa rfl rfl ?_
                  refine Wn ?_
                  refine tN ?_
                  refine W_rs ?_
                  refine sm rfl rfl ?_
                  refine st (X.neq rfl rfl) rfl ?_
                  refine sbY rfl (decide_eq_true htb) rfl ?_
                  refine gY (g := 71) rfl rfl rfl ?_
                  refine st (X.ldBN rfl hB10 Try.underlying71 rfl siz71) rfl ?_
                  refine gY (g := 71) rfl rfl rfl ?_
                  refine sc _ Try.func51 rfl (by kernel_rfl) rfl rfl ((ILen_any _ [] _ (reads_zero hcd)).mono ?_)
                  rintro e_ w26 ⟨rfl, hb⟩
                  refine cR ?_
                  replace hbw := bthen hbw hb
                  replace hB7 := hB7.bel hb
                  replace hR51 := hR51.bel hb
                  replace hB10 := hB10.bel hb
                  replace hB12 := hB12.bel hb
                  have hz_w26 := hb.size
                  clear hb
                  refine gY (g := 71) rfl rfl rfl ?_
                  refine st (X.eql rfl rfl) rfl ?_
                  refine st (X.pickT rfl rfl) rfl ?_
                  refine sbY rfl (rfl) rfl ?_
                  refine gY (g := 76) rfl rfl rfl ?_
                  refine sm rfl rfl ?_
                  refine gY (g := 76) rfl rfl rfl ?_
                  refine st (X.eql rfl rfl) rfl ?_
                  refine gY (g := 76) rfl rfl rfl ?_
                  refine sbY rfl (decide_eq_true hcb) rfl ?_
                  refine gN (g := 79) rfl rfl rfl rfl ?_
                  refine gN (g := 79) rfl rfl rfl rfl ?_
                  refine gY (g := 76) rfl rfl rfl ?_
                  refine st (X.pickT rfl rfl) rfl ?_
                  refine st (X.pickT rfl rfl) rfl ?_
                  refine sm rfl rfl ?_
                  refine gY (g := 84) rfl rfl rfl ?_
                  refine sc _ Try.func44 rfl (by kernel_rfl) rfl rfl ((fawake_any _).mono ?_)
                  rintro e_ w27 ⟨rfl, hb⟩
                  refine cR ?_
                  replace hbw := bthen hbw hb
                  replace hB7 := hB7.bel hb
                  replace hR51 := hR51.bel hb
                  replace hB10 := hB10.bel hb
                  replace hB12 := hB12.bel hb
                  have hz_w27 := hb.size
                  clear hb
                  refine st (X.pickT rfl rfl) rfl ?_
                  refine sa rfl rfl ?_
                  refine Wn ?_
                  refine tN ?_
                  refine W_ret ?_
                  exact (rT rfl rfl ⟨rfl, hbw⟩).1
              · refine salA inf71 rfl (fun g10 w28 hB10 hg10 hb hl10 => ?_)
                replace hbw := bthen hbw hb
                replace hB7 := hB7.bel hb
                replace hR51 := hR51.bel hb
                have hz_w28 := hb.size
                clear hb
                refine Wn (hQ_ _ _ trivial ?_)
                clear hQ_ hP_ Q_
                refine uP (uA rfl (fun Q_ hQ_ hP_ => ?_) u0)
                refine st (X.strOf (s := [E.getD p 0 ^^^ b]) rfl Try.underlying81 Try.underlying5 Try.underlying9 hR51.reads) rfl ?_
                refine Wn (hQ_ _ _ trivial ?_)
                clear hQ_ hP_ Q_
                refine uY rfl (fun W_ hW_ => (X.cat rfl rfl (by rw [List.length_take]; simp; omega))) rfl ?_
                refine uY rfl (fun W_ hW_ => (X.cat rfl rfl (by simp; omega))) rfl ?_
                refine uP (uA rfl (fun Q_ hQ_ hP_ => ?_) u0)
                refine sc _ Try.func50 rfl (by kernel_rfl) rfl rfl ((Decode_any (E.take p ++ [E.getD p 0 ^^^ b] ++ E.drop (p + 1)) _ (by simp; omega)).mono ?_)
                rintro e_ w29 ⟨vd, rfl, hD, hb⟩
                refine cR ?_
                replace hbw := bthen hbw hb
                replace hB7 := hB7.bel hb
                replace hR51 := hR51.bel hb
                replace hB10 := hB10.bel hb
                have hz_w29 := hb.size
                clear hb
                refine Wn (hQ_ _ _ trivial ?_)
                clear hQ_ hP_ Q_
                obtain ⟨ad, cd, rfl, _, hcd⟩ := hD.shape
                clear hD
                rw [htz]
                refine uY rfl (fun W_ hW_ => (X.move rfl)) rfl ?_
                refine uY rfl (fun W_ hW_ => (X.ext rfl rfl)) rfl ?_
                refine uY rfl (fun W_ hW_ => (X.ext rfl rfl)) rfl ?_
                refine uP (uA rfl (fun Q_ hQ_ hP_ => ?_) u0)
                refine ssBN rfl rfl hB10 siz71 rfl rfl (fun w30 hB_ hc_ => ?_)
                replace hB10 := hB_
                clear hB_
                replace hB7 := hB7.chg hc_ (by first | (show ¬ _ = _; omega) | (intro k_ hk_; simp [Value.ownBlock] at hk_; subst hk_; show ¬ _ = _; omega))
                replace hR51 := hR51.chg hc_ (by first | (show ¬ _ = _; omega) | (intro k_ hk_; simp [Value.ownBlock] at hk_; subst hk_; show ¬ _ = _; omega))
                replace hbw := bset hbw hc_ (by omega)
                have hz_w30 := hc_.size
                clear hc_
                refine Wn (hQ_ _ _ trivial ?_)
                clear hQ_ hP_ Q_
                refine uY rfl (fun W_ hW_ => (X.assign rfl)) rfl ?_
                refine uN ?_
                refine nN ?_
                refine W_rs ?_
                refine sm rfl rfl ?_
                refine sm rfl rfl ?_
                refine st (X.toS rfl rfl Try.underlying9 rfl (by omega)) rfl ?_
                refine sc _ Try.func50 rfl (by kernel_rfl) rfl rfl ((Decode_any (E.take p) _ (by rw [List.length_take]; omega)).mono ?_)
                rintro e_ w31 ⟨vc, rfl, hC0, hb⟩
                refine cR ?_
                replace hbw := bthen hbw hb
                replace hB7 := hB7.bel hb
                replace hR51 := hR51.bel hb
                replace hB10 := hB10.bel hb
                have hz_w31 := hb.size
                clear hb
                obtain ⟨ac, cc, rfl, _, _⟩ := hC0.shape
                refine sm rfl rfl ?_
                refine st (X.ext rfl rfl) rfl ?_
                refine st (X.ext rfl rfl) rfl ?_
                refine salA inf71 rfl (fun g12 w32 hB12 hg12 hb hl12 => ?_)
                replace hbw := bthen hbw hb
                replace hB7 := hB7.bel hb
                replace hR51 := hR51.bel hb
                replace hB10 := hB10.bel hb
                have hz_w32 := hb.size
                clear hb
                refine ssBN rfl rfl hB12 siz71 rfl rfl (fun w33 hB_ hc_ => ?_)
                replace hB12 := hB_
                clear hB_
                replace hB7 := hB7.chg hc_ (by first | (show ¬ _ = _; omega) | (intro k_ hk_; simp [Value.ownBlock] at hk_; subst hk_; show ¬ _ = _; omega))
                replace hR51 := hR51.chg hc_ (by first | (show ¬ _ = _; omega) | (intro k_ hk_; simp [Value.ownBlock] at hk_; subst hk_; show ¬ _ = _; omega))
                replace hB10 := hB10.chg hc_ (by first | (show ¬ _ = _; omega) | (intro k_ hk_; simp [Value.ownBlock] at hk_; subst hk_; show ¬ _ = _; omega))
                replace hbw := bset hbw hc_ (by omega)
                have hz_w33 := hc_.size
                clear hc_
                refine sa rfl rfl ?_
                refine Wn ?_
                refine tN ?_
                refine W_rs ?_
                refine sm rfl rfl ?_
                refine st (X.neq rfl rfl) rfl ?_
                refine sbY rfl (decide_eq_true htb) rfl ?_
                refine gY (g := 71) rfl rfl rfl ?_
                refine st (X.ldBN rfl hB10 Try.underlying71 rfl siz71) rfl ?_
                refine gY (g := 71) rfl rfl rfl ?_
                refine sc _ Try.func51 rfl (by kernel_rfl) rfl rfl ((ILen_any _ [] _ (reads_zero hcd)).mono ?_)
                rintro e_ w34 ⟨rfl, hb⟩
                refine cR ?_
                replace hbw := bthen hbw hb
                replace hB7 := hB7.bel hb
                replace hR51 := hR51.bel hb
                replace hB10 := hB10.bel hb
                replace hB12 := hB12.bel hb
                have hz_w34 := hb.size
                clear hb
                refine gY (g := 71) rfl rfl rfl ?_
                refine st (X.eql rfl rfl) rfl ?_
                refine st (X.pickT rfl rfl) rfl ?_
                refine sbY rfl (rfl) rfl ?_
                refine gY (g := 76) rfl rfl rfl ?_
                refine sm rfl rfl ?_
                refine gY (g := 76) rfl rfl rfl ?_
                refine st (X.eql rfl rfl) rfl ?_
                refine gY (g := 76) rfl rfl rfl ?_
                refine sbY rfl (decide_eq_true hcb) rfl ?_
                refine gN (g := 79) rfl rfl rfl rfl ?_
                refine gN (g := 79) rfl rfl rfl rfl ?_
                refine gY (g := 76) rfl rfl rfl ?_
                refine st (X.pickT rfl rfl) rfl ?_
                refine st (X.pickT rfl rfl) rfl ?_
                refine sm rfl rfl ?_
                refine gY (g := 84) rfl rfl rfl ?_
                refine sc _ Try.func44 rfl (by kernel_rfl) rfl rfl ((fawake_any _).mono ?_)
                rintro e_ w35 ⟨rfl, hb⟩
                refine cR ?_
                replace hbw := bthen hbw hb
                replace hB7 := hB7.bel hb
                replace hR51 := hR51.bel hb
                replace hB10 := hB10.bel hb
                replace hB12 := hB12.bel hb
                have hz_w35 := hb.size
                clear hb
                refine st (X.pickT rfl rfl) rfl ?_
                refine sa rfl rfl ?_
                refine Wn ?_
                refine tN ?_
                refine W_ret ?_
                exact (rT rfl rfl ⟨rfl, hbw⟩).1
            · refine salA inf71 rfl (fun g10 w36 hB10 hg10 hb hl10 => ?_)
              replace hbw := bthen hbw hb
              replace hB7 := hB7.bel hb
              have hz_w36 := hb.size
              clear hb
              refine Wn (hQ_ _ _ trivial ?_)
              clear hQ_ hP_ Q_
              refine uP (uA rfl (fun Q_ hQ_ hP_ => ?_) u0)
              refine sbs1 rfl Try.underlying81 inf5 rfl rfl (by decide) (by decide) rfl (fun g51 w37 hR51 hg51 hb => ?_)
              replace hbw := bthen hbw hb
              replace hB7 := hB7.bel hb
              replace hB10 := hB10.bel hb
              have hz_w37 := hb.size
              clear hb
              have hl51 := hR51.blt (by decide)
              refine Wn (hQ_ _ _ trivial ?_)
              clear hQ_ hP_ Q_
              refine uP (uA rfl (fun Q_ hQ_ hP_ => ?_) u0)
              refine st (X.strOf (s := [E.getD p 0 ^^^ b]) rfl Try.underlying81 Try.underlying5 Try.underlying9 hR51.reads) rfl ?_
              refine Wn (hQ_ _ _ trivial ?_)
              clear hQ_ hP_ Q_
              refine uY rfl (fun W_ hW_ => (X.cat rfl rfl (by rw [List.length_take]; simp; omega))) rfl ?_
              refine uY rfl (fun W_ hW_ => (X.cat rfl rfl (by simp; omega))) rfl ?_
              refine uP (uA rfl (fun Q_ hQ_ hP_ => ?_) u0)
              refine sc _ Try.func50 rfl (by kernel_rfl) rfl rfl ((Decode_any (E.take p ++ [E.getD p 0 ^^^ b] ++ E.drop (p + 1)) _ (by simp; omega)).mono ?_)
              rintro e_ w38 ⟨vd, rfl, hD, hb⟩
              refine cR ?_
              replace hbw := bthen hbw hb
              replace hB7 := hB7.bel hb
              replace hB10 := hB10.bel hb
              replace hR51 := hR51.bel hb
              have hz_w38 := hb.size
              clear hb
              refine Wn (hQ_ _ _ trivial ?_)
              clear hQ_ hP_ Q_
              obtain ⟨ad, cd, rfl, _, hcd⟩ := hD.shape
              clear hD
              rw [htz]
              refine uY rfl (fun W_ hW_ => (X.move rfl)) rfl ?_
              refine uY rfl (fun W_ hW_ => (X.ext rfl rfl)) rfl ?_
              refine uY rfl (fun W_ hW_ => (X.ext rfl rfl)) rfl ?_
              refine uP (uA rfl (fun Q_ hQ_ hP_ => ?_) u0)
              refine ssBN rfl rfl hB10 siz71 rfl rfl (fun w39 hB_ hc_ => ?_)
              replace hB10 := hB_
              clear hB_
              replace hB7 := hB7.chg hc_ (by first | (show ¬ _ = _; omega) | (intro k_ hk_; simp [Value.ownBlock] at hk_; subst hk_; show ¬ _ = _; omega))
              replace hR51 := hR51.chg hc_ (by first | (show ¬ _ = _; omega) | (intro k_ hk_; simp [Value.ownBlock] at hk_; subst hk_; show ¬ _ = _; omega))
              replace hbw := bset hbw hc_ (by omega)
              have hz_w39 := hc_.size
              clear hc_
              refine Wn (hQ_ _ _ trivial ?_)
              clear hQ_ hP_ Q_
              refine uY rfl (fun W_ hW_ => (X.assign rfl)) rfl ?_
              refine uN ?_
              refine nN ?_
              refine W_rs ?_
              refine sm rfl rfl ?_
              refine sm rfl rfl ?_
              refine st (X.toS rfl rfl Try.underlying9 rfl (by omega)) rfl ?_
              refine sc _ Try.func50 rfl (by kernel_rfl) rfl rfl ((Decode_any (E.take p) _ (by rw [List.length_take]; omega)).mono ?_)
              rintro e_ w40 ⟨vc, rfl, hC0, hb⟩
              refine cR ?_
              replace hbw := bthen hbw hb
              replace hB7 := hB7.bel hb
              replace hB10 := hB10.bel hb
              replace hR51 := hR51.bel hb
              have hz_w40 := hb.size
              clear hb
              obtain ⟨ac, cc, rfl, _, _⟩ := hC0.shape
              refine sm rfl rfl ?_
              refine st (X.ext rfl rfl) rfl ?_
              refine st (X.ext rfl rfl) rfl ?_
              refine salA inf71 rfl (fun g12 w41 hB12 hg12 hb hl12 => ?_)
              replace hbw := bthen hbw hb
              replace hB7 := hB7.bel hb
              replace hB10 := hB10.bel hb
              replace hR51 := hR51.bel hb
              have hz_w41 := hb.size
              clear hb
              refine ssBN rfl rfl hB12 siz71 rfl rfl (fun w42 hB_ hc_ => ?_)
              replace hB12 := hB_
              clear hB_
              replace hB7 := hB7.chg hc_ (by first | (show ¬ _ = _; omega) | (intro k_ hk_; simp [Value.ownBlock] at hk_; subst hk_; show ¬ _ = _; omega))
              replace hB10 := hB10.chg hc_ (by first | (show ¬ _ = _; omega) | (intro k_ hk_; simp [Value.ownBlock] at hk_; subst hk_; show ¬ _ = _; omega))
              replace hR51 := hR51.chg hc_ (by first | (show ¬ _ = _; omega) | (intro k_ hk_; simp [Value.ownBlock] at hk_; subst hk_; show ¬ _ = _; omega))
              replace hbw := bset hbw hc_ (by omega)
              have hz_w42 := hc_.size
              clear hc_
              refine sa rfl rfl ?_
              refine Wn ?_
              refine tN ?_
              refine W_rs ?_
              refine sm rfl rfl ?_
              refine st (X.neq rfl rfl) rfl ?_
              refine sbY rfl (decide_eq_true htb) rfl ?_
              refine gY (g := 71) rfl rfl rfl ?_
              refine st (X.ldBN rfl hB10 Try.underlying71 rfl siz71) rfl ?_
              refine gY (g := 71) rfl rfl rfl ?_
              refine sc _ Try.func51 rfl (by kernel_rfl) rfl rfl ((ILen_any _ [] _ (reads_zero hcd)).mono ?_)
              rintro e_ w43 ⟨rfl, hb⟩
              refine cR ?_
              replace hbw := bthen hbw hb
              replace hB7 := hB7.bel hb
              replace hB10 := hB10.bel hb
              replace hR51 := hR51.bel hb
              replace hB12 := hB12.bel hb
              have hz_w43 := hb.size
              clear hb
              refine gY (g := 71) rfl rfl rfl ?_
              refine st (X.eql rfl rfl) rfl ?_
              refine st (X.pickT rfl rfl) rfl ?_
              refine sbY rfl (rfl) rfl ?_
              refine gY (g := 76) rfl rfl rfl ?_
              refine sm rfl rfl ?_
              refine gY (g := 76) rfl rfl rfl ?_
              refine st (X.eql rfl rfl) rfl ?_
              refine gY (g := 76) rfl rfl rfl ?_
              refine sbY rfl (decide_eq_true hcb) rfl ?_
              refine gN (g := 79) rfl rfl rfl rfl ?_
              refine gN (g := 79) rfl rfl rfl rfl ?_
              refine gY (g := 76) rfl rfl rfl ?_
              refine st (X.pickT rfl rfl) rfl ?_
              refine st (X.pickT rfl rfl) rfl ?_
              refine sm rfl rfl ?_
              refine gY (g := 84) rfl rfl rfl ?_
              refine sc _ Try.func44 rfl (by kernel_rfl) rfl rfl ((fawake_any _).mono ?_)
              rintro e_ w44 ⟨rfl, hb⟩
              refine cR ?_
              replace hbw := bthen hbw hb
              replace hB7 := hB7.bel hb
              replace hB10 := hB10.bel hb
              replace hR51 := hR51.bel hb
              replace hB12 := hB12.bel hb
              have hz_w44 := hb.size
              clear hb
              refine st (X.pickT rfl rfl) rfl ?_
              refine sa rfl rfl ?_
              refine Wn ?_
              refine tN ?_
              refine W_ret ?_
              exact (rT rfl rfl ⟨rfl, hbw⟩).1
set_option maxRecDepth 10000 in
set_option maxHeartbeats 1000000 in
theorem FanBack_walk (w : World) (v : Value) (l : List Ent) (h : EntsAt w v l) (h32 : S32 l) (s : List UInt8) (hs : s.length ≤ 9223372036854775807) : Calls Try.prog 13 #[v, str s] w fun e w' => e = .returned (.bool true) ∧ Below w.heap.size w w' := by
  obtain ⟨a, cp, rfl, hn, hcp⟩ := h.shape
  refine W_enter (args := [.slice a l.length cp, str s]) 76 Try.func13 rfl rfl rfl ?_
  refine W_sub [(0, .slice a l.length cp), (1, str s)] ?_ ⟨rfl, rfl, trivial⟩
  have hbw := Below.refl w.heap.size w
  refine W_rs ?_
  refine sa rfl rfl ?_
  refine Wn ?_
  refine tN ?_
  refine W_seq ?_
  refine W_rs ?_
  refine sm rfl rfl ?_
  refine st (X.lenL rfl rfl Try.underlying69) rfl ?_
  refine st (X.gtr rfl rfl) rfl ?_
  refine sb rfl rfl (fun h14 => ?_) (fun h14 => ?_)
  · first | replace h14 := of_decide_eq_true h14 | replace h14 := of_decide_eq_false (notT h14) | replace h14 := notT h14 | skip
    refine gN (g := 14) rfl rfl rfl rfl ?_
    refine gN (g := 14) rfl rfl rfl rfl ?_
    refine gN (g := 14) rfl rfl rfl rfl ?_
    refine st (X.pickT rfl rfl) rfl ?_
    refine Wn ?_
    refine tN ?_
    refine W_yes rfl (rfl) ?_
    refine W_rs ?_
    refine sc _ Try.func44 rfl (by kernel_rfl) rfl rfl ((fawake_any _).mono ?_)
    rintro e_ w1 ⟨rfl, hb⟩
    refine cR ?_
    replace hbw := bthen hbw hb
    have hz_w1 := hb.size
    clear hb
    refine sa rfl rfl ?_
    refine Wn ?_
    refine tN ?_
    refine W_ret (tR ?_)
    exact (rT rfl rfl ⟨rfl, hbw⟩).1
  · first | replace h14 := of_decide_eq_false h14 | replace h14 := of_decide_eq_true (notF h14) | replace h14 := notF h14 | skip
    refine gY (g := 14) rfl rfl rfl ?_
    refine sm rfl rfl ?_
    refine gY (g := 14) rfl rfl rfl ?_
    refine st (X.lenS rfl rfl Try.underlying9) rfl ?_
    refine gY (g := 14) rfl rfl rfl ?_
    refine st (X.gtr rfl rfl) rfl ?_
    refine st (X.pickF rfl rfl) rfl ?_
    refine Wn ?_
    refine tN ?_
    refine W_if rfl (fun h18 => ?_) (fun h18 => ?_)
    · first | replace h18 := of_decide_eq_true h18 | replace h18 := of_decide_eq_false (notT h18) | replace h18 := notT h18 | skip
      refine W_rs ?_
      refine sc _ Try.func44 rfl (by kernel_rfl) rfl rfl ((fawake_any _).mono ?_)
      rintro e_ w2 ⟨rfl, hb⟩
      refine cR ?_
      replace hbw := bthen hbw hb
      have hz_w2 := hb.size
      clear hb
      refine sa rfl rfl ?_
      refine Wn ?_
      refine tN ?_
      refine W_ret (tR ?_)
      exact (rT rfl rfl ⟨rfl, hbw⟩).1
    · first | replace h18 := of_decide_eq_false h18 | replace h18 := of_decide_eq_true (notF h18) | replace h18 := notF h18 | skip
      have hml := make_length l
      have hL32 := make_S32 h32
      have hdl := dec_length s
      refine W_skip ?_
      refine tN ?_
      refine W_rs ?_
      refine sm rfl rfl ?_
      refine sc _ Try.func45 rfl (by kernel_rfl) rfl rfl ((Make_any _ l _ (h.bel hbw) h32 (by omega)).mono ?_)
      rintro e_ w3 ⟨vm, rfl, hE, hb⟩
      refine cR ?_
      replace hbw := bthen hbw hb
      have hz_w3 := hb.size
      clear hb
      obtain ⟨am, cm, rfl, _, _⟩ := hE.shape
      refine sm rfl rfl ?_
      refine st (X.ext rfl rfl) rfl ?_
      refine st (X.ext rfl rfl) rfl ?_
      refine salA inf71 rfl (fun g5 w4 hB5 hg5 hb hl5 => ?_)
      have hpend := hb
      replace hbw := bthen hbw hb
      have hz_w4 := hb.size
      clear hb
      refine ssBN rfl rfl hB5 siz71 rfl rfl (fun w5 hB_ hc_ => ?_)
      replace hB5 := hB_
      clear hB_
      replace hpend := bset hpend hc_ (by omega)
      replace hbw := bset hbw hc_ (by omega)
      have hz_w5 := hc_.size
      clear hc_
      refine sa rfl rfl ?_
      refine Wn ?_
      refine tN ?_
      refine W_seq ?_
      refine W_rs ?_
      refine sm rfl rfl ?_
      refine st (X.eql rfl rfl) rfl ?_
      refine Wn ?_
      refine tN ?_
      refine W_if rfl (fun h26 => ?_) (fun h26 => ?_)
      · first | replace h26 := of_decide_eq_true h26 | replace h26 := of_decide_eq_false (notT h26) | replace h26 := notT h26 | skip
        have hde := dec_enc (l := (makeM l).1) hL32 make_all (by omega) (make_up l)
        refine W_rs ?_
        refine st (X.ldBN rfl hB5 Try.underlying71 rfl siz71) rfl ?_
        replace hE := hE.bel hpend
        clear hpend
        refine sc _ Try.func48 rfl (by kernel_rfl) rfl rfl ((Encode_any _ (makeM l).1 _ hE hL32 (by omega)).mono ?_)
        rintro e_ w6 ⟨rfl, hb⟩
        refine cR ?_
        have hpend := hb
        replace hbw := bthen hbw hb
        replace hB5 := hB5.bel hb
        have hz_w6 := hb.size
        clear hb
        refine sc _ Try.func50 rfl (by kernel_rfl) rfl rfl ((Decode_any (encM (makeM l).1) _ (by rw [encM_length hL32]; omega)).mono ?_)
        rintro e_ w7 ⟨vd, rfl, hD, hb⟩
        refine cR ?_
        replace hpend := bthen hpend hb
        replace hbw := bthen hbw hb
        replace hB5 := hB5.bel hb
        have hz_w7 := hb.size
        clear hb
        rw [hde] at hD ⊢
        obtain ⟨ad, cd, rfl, _, _⟩ := hD.shape
        replace hE := hE.bel hpend
        clear hpend
        refine sm rfl rfl ?_
        refine st (X.ext rfl rfl) rfl ?_
        refine st (X.ext rfl rfl) rfl ?_
        refine salA inf71 rfl (fun g7 w8 hB7 hg7 hb hl7 => ?_)
        have hpend := hb
        replace hbw := bthen hbw hb
        replace hB5 := hB5.bel hb
        have hz_w8 := hb.size
        clear hb
        refine ssBN rfl rfl hB7 siz71 rfl rfl (fun w9 hB_ hc_ => ?_)
        replace hB7 := hB_
        clear hB_
        replace hpend := bset hpend hc_ (by omega)
        replace hB5 := hB5.chg hc_ (by first | (show ¬ _ = _; omega) | (intro k_ hk_; simp [Value.ownBlock] at hk_; subst hk_; show ¬ _ = _; omega))
        replace hbw := bset hbw hc_ (by omega)
        have hz_w9 := hc_.size
        clear hc_
        refine sa rfl rfl ?_
        refine Wn ?_
        refine tN ?_
        refine W_drsN (fun W_ => Blk W_ g7 71 #[.slice ad (makeM l).1.length cd] ∧ Blk W_ g5 71 #[.slice am (makeM l).1.length cm]) [0, 1, 2, 3, 5, 4, 6, 7, 8, 9, 10, 12, 11, 13, 14, 15, 16, 17] [true, true, true, true, true, false, false, true, true, true, true, true, false, false, false, false, true, true] (by kernel_rfl) (by kernel_rfl) (⟨hB7.drew, hB5.drew⟩) ?_
        obtain ⟨w10, hw_⟩ : ∃ w10 : World, w10 = World.drew w9 := ⟨_, rfl⟩
        rw [← hw_]
        have hb : Below w9.heap.size w9 w10 := by rw [hw_]; exact bdrew (Below.refl _ _)
        clear hw_
        have hS := hb
        replace hpend := bthen hpend hb
        replace hbw := bthen hbw hb
        replace hB5 := hB5.bel hb
        replace hB7 := hB7.bel hb
        have hz_w10 := hb.size
        clear hb
        refine oY rfl (fun W_ hW_ => (X.move rfl)) rfl ?_
        refine oY rfl (fun W_ hW_ => (X.neq rfl rfl)) rfl ?_
        refine oY rfl (fun W_ hW_ => (X.mvB (c := false) rfl (rfl))) rfl ?_
        refine oYg (g := 35) rfl rfl rfl rfl (fun W_ hW_ => (X.ldBN rfl hW_.1 Try.underlying71 rfl siz71)) rfl ?_
        refine oYg (g := 35) rfl rfl rfl rfl (fun W_ hW_ => (X.ldBN rfl hW_.2 Try.underlying71 rfl siz71)) rfl ?_
        refine oL rfl (fun Q_ hQ_ hP_ => ?_)
        refine gY (g := 35) rfl rfl rfl ?_
        replace hE := hE.bel hpend
        replace hD := hD.bel hpend
        clear hpend
        refine sc _ Try.func48 rfl (by kernel_rfl) rfl rfl ((Encode_any _ (makeM l).1 _ hD hL32 (by omega)).mono ?_)
        rintro e_ w11 ⟨rfl, hb⟩
        refine cR ?_
        have hpend := hb
        replace hbw := bthen hbw hb
        replace hB5 := hB5.bel hb
        replace hB7 := hB7.bel hb
        have hz_w11 := hb.size
        clear hb
        refine Wn (hQ_ _ _ (⟨hB7, hB5⟩) ?_)
        clear hQ_ hP_ Q_
        refine oL rfl (fun Q_ hQ_ hP_ => ?_)
        refine gY (g := 35) rfl rfl rfl ?_
        replace hE := hE.bel hpend
        replace hD := hD.bel hpend
        clear hpend
        refine sc _ Try.func48 rfl (by kernel_rfl) rfl rfl ((Encode_any _ (makeM l).1 _ hE hL32 (by omega)).mono ?_)
        rintro e_ w12 ⟨rfl, hb⟩
        refine cR ?_
        have hpend := hb
        replace hbw := bthen hbw hb
        replace hB5 := hB5.bel hb
        replace hB7 := hB7.bel hb
        have hz_w12 := hb.size
        clear hb
        refine Wn (hQ_ _ _ (⟨hB7, hB5⟩) ?_)
        clear hQ_ hP_ Q_
        refine oYg (g := 35) rfl rfl rfl rfl (fun W_ hW_ => (X.neS rfl rfl)) rfl ?_
        refine oY rfl (fun W_ hW_ => (X.pickF rfl rfl)) rfl ?_
        refine oY rfl (fun W_ hW_ => (X.mvB (c := false) rfl (by simp))) rfl ?_
        refine oYg (g := 42) rfl rfl rfl rfl (fun W_ hW_ => (X.ldBN rfl hW_.1 Try.underlying71 rfl siz71)) rfl ?_
        refine oYg (g := 42) rfl rfl rfl rfl (fun W_ hW_ => (X.ldBN rfl hW_.2 Try.underlying71 rfl siz71)) rfl ?_
        refine oL rfl (fun Q_ hQ_ hP_ => ?_)
        refine gY (g := 42) rfl rfl rfl ?_
        replace hE := hE.bel hpend
        replace hD := hD.bel hpend
        clear hpend
        refine sc _ Try.func54 rfl (by kernel_rfl) rfl rfl ((IAll_any _ (makeM l).1 _ hD hL32 (by omega)).mono ?_)
        rintro e_ w13 ⟨va, rfl, hA, hOa, hb⟩
        refine cR ?_
        have hpend := hb
        replace hbw := bthen hbw hb
        replace hB5 := hB5.bel hb
        replace hB7 := hB7.bel hb
        have hz_w13 := hb.size
        clear hb
        refine Wn (hQ_ _ _ (⟨hB7, hB5⟩) ?_)
        clear hQ_ hP_ Q_
        replace hE := hE.bel hpend
        replace hD := hD.bel hpend
        clear hpend
        refine oL rfl (fun Q_ hQ_ hP_ => ?_)
        refine gY (g := 42) rfl rfl rfl ?_
        refine sc _ Try.func54 rfl (by kernel_rfl) rfl rfl ((IAll_any _ (makeM l).1 _ hE hL32 (by omega)).mono ?_)
        rintro e_ w14 ⟨vb, rfl, hBb, hOb, hb⟩
        refine cR ?_
        have hpend := hb
        replace hbw := bthen hbw hb
        replace hB5 := hB5.bel hb
        replace hB7 := hB7.bel hb
        have hz_w14 := hb.size
        clear hb
        refine Wn (hQ_ _ _ (⟨hB7, hB5⟩) ?_)
        clear hQ_ hP_ Q_
        refine oL rfl (fun Q_ hQ_ hP_ => ?_)
        refine gY (g := 42) rfl rfl rfl ?_
        refine sc _ Try.func47 rfl (by kernel_rfl) rfl rfl ((FPlain_any vb (makeM l).1 _ hBb.reads hL32 (by omega)).mono ?_)
        rintro e_ w15 ⟨vp, rfl, hP, hOp, hb⟩
        refine cR ?_
        replace hpend := bthen hpend hb
        replace hbw := bthen hbw hb
        replace hB5 := hB5.bel hb
        replace hB7 := hB7.bel hb
        have hz_w15 := hb.size
        clear hb
        refine Wn (hQ_ _ _ (⟨hB7, hB5⟩) ?_)
        clear hQ_ hP_ Q_
        refine oL rfl (fun Q_ hQ_ hP_ => ?_)
        refine gY (g := 42) rfl rfl rfl ?_
        replace hE := hE.bel hpend
        replace hD := hD.bel hpend
        replace hA := hA.bel hpend
        clear hpend
        refine sc _ Try.func53 rfl (by kernel_rfl) rfl rfl ((FSame_any va vp _ _ _ hA.reads hL32 (by omega) hP.reads).mono ?_)
        rintro e_ w16 ⟨rfl, hb⟩
        refine cR ?_
        have hpend := hb
        replace hbw := bthen hbw hb
        replace hB5 := hB5.bel hb
        replace hB7 := hB7.bel hb
        have hz_w16 := hb.size
        clear hb
        refine Wn (hQ_ _ _ (⟨hB7, hB5⟩) ?_)
        clear hQ_ hP_ Q_
        refine oYg (g := 42) rfl rfl rfl rfl (fun W_ hW_ => (X.not rfl)) rfl ?_
        refine oY rfl (fun W_ hW_ => (X.pickF rfl rfl)) rfl ?_
        refine oN ?_
        refine nN ?_
        refine W_no rfl (by simp) ?_
        refine W_skip ?_
        refine tN ?_
        refine W_rs ?_
        refine sm rfl rfl ?_
        refine sc _ Try.func50 rfl (by kernel_rfl) rfl rfl ((Decode_any s _ (by omega)).mono ?_)
        rintro e_ w17 ⟨vz, rfl, hZ, hb⟩
        refine cR ?_
        replace hpend := bthen hpend hb
        replace hbw := bthen hbw hb
        replace hB5 := hB5.bel hb
        replace hB7 := hB7.bel hb
        have hz_w17 := hb.size
        clear hb
        obtain ⟨az, cz, rfl, _, _⟩ := hZ.shape
        replace hE := hE.bel hpend
        replace hD := hD.bel hpend
        replace hA := hA.bel hpend
        clear hpend
        refine sm rfl rfl ?_
        refine st (X.ext rfl rfl) rfl ?_
        refine st (X.ext rfl rfl) rfl ?_
        refine salA inf71 rfl (fun g9 w18 hB9 hg9 hb hl9 => ?_)
        have hpend := hb
        replace hbw := bthen hbw hb
        replace hB5 := hB5.bel hb
        replace hB7 := hB7.bel hb
        have hz_w18 := hb.size
        clear hb
        refine ssBN rfl rfl hB9 siz71 rfl rfl (fun w19 hB_ hc_ => ?_)
        replace hB9 := hB_
        clear hB_
        replace hpend := bset hpend hc_ (by omega)
        replace hB5 := hB5.chg hc_ (by first | (show ¬ _ = _; omega) | (intro k_ hk_; simp [Value.ownBlock] at hk_; subst hk_; show ¬ _ = _; omega))
        replace hB7 := hB7.chg hc_ (by first | (show ¬ _ = _; omega) | (intro k_ hk_; simp [Value.ownBlock] at hk_; subst hk_; show ¬ _ = _; omega))
        replace hbw := bset hbw hc_ (by omega)
        have hz_w19 := hc_.size
        clear hc_
        refine sa rfl rfl ?_
        refine Wn ?_
        refine tN ?_
        refine W_rs ?_
        refine sm rfl rfl ?_
        refine st (X.neq rfl rfl) rfl ?_
        refine sb rfl rfl (fun h58 => ?_) (fun h58 => ?_)
        · first | replace h58 := of_decide_eq_true h58 | replace h58 := of_decide_eq_false (notT h58) | replace h58 := notT h58 | skip
          have hz0 := dec_bad h58
          refine gY (g := 58) rfl rfl rfl ?_
          refine st (X.ldBN rfl hB9 Try.underlying71 rfl siz71) rfl ?_
          refine gY (g := 58) rfl rfl rfl ?_
          replace hE := hE.bel hpend
          replace hD := hD.bel hpend
          replace hA := hA.bel hpend
          replace hZ := hZ.bel hpend
          clear hpend
          refine sc _ Try.func51 rfl (by kernel_rfl) rfl rfl ((ILen_any _ (decM s).1 _ hZ).mono ?_)
          rintro e_ w20 ⟨rfl, hb⟩
          refine cR ?_
          have hpend := hb
          replace hbw := bthen hbw hb
          replace hB5 := hB5.bel hb
          replace hB7 := hB7.bel hb
          replace hB9 := hB9.bel hb
          have hz_w20 := hb.size
          clear hb
          refine gY (g := 58) rfl rfl rfl ?_
          refine st (X.eql rfl rfl) rfl ?_
          refine st (X.pickT rfl rfl) rfl ?_
          refine sbY rfl (by rw [hz0]; rfl) rfl ?_
          refine gN (g := 63) rfl rfl rfl rfl ?_
          refine gN (g := 63) rfl rfl rfl rfl ?_
          refine gN (g := 63) rfl rfl rfl rfl ?_
          refine gU (g := 66) rfl rfl rfl rfl ?_
          refine gU (g := 66) rfl rfl rfl rfl ?_
          refine gU (g := 66) rfl rfl rfl rfl ?_
          refine gU (g := 66) rfl rfl rfl rfl ?_
          refine gN (g := 63) rfl rfl rfl rfl ?_
          refine st (X.pickT rfl rfl) rfl ?_
          refine sm rfl rfl ?_
          refine gY (g := 73) rfl rfl rfl ?_
          refine sc _ Try.func44 rfl (by kernel_rfl) rfl rfl ((fawake_any _).mono ?_)
          rintro e_ w21 ⟨rfl, hb⟩
          refine cR ?_
          replace hpend := bthen hpend hb
          replace hbw := bthen hbw hb
          replace hB5 := hB5.bel hb
          replace hB7 := hB7.bel hb
          replace hB9 := hB9.bel hb
          have hz_w21 := hb.size
          clear hb
          refine st (X.pickT rfl rfl) rfl ?_
          refine sa rfl rfl ?_
          refine Wn ?_
          refine tN ?_
          replace hE := hE.bel hpend
          replace hD := hD.bel hpend
          replace hA := hA.bel hpend
          replace hZ := hZ.bel hpend
          clear hpend
          refine W_ret ?_
          exact (rT rfl rfl ⟨rfl, hbw⟩).1
        · first | replace h58 := of_decide_eq_false h58 | replace h58 := of_decide_eq_true (notF h58) | replace h58 := notF h58 | skip
          have hz0 := dec_ok (Classical.not_not.1 h58)
          refine gN (g := 58) rfl rfl rfl rfl ?_
          refine gN (g := 58) rfl rfl rfl rfl ?_
          refine gN (g := 58) rfl rfl rfl rfl ?_
          refine st (X.pickF rfl rfl) rfl ?_
          refine sm rfl rfl ?_
          refine gY (g := 63) rfl rfl rfl ?_
          refine sm rfl rfl ?_
          refine gY (g := 63) rfl rfl rfl ?_
          refine st (X.eql rfl rfl) rfl ?_
          refine gY (g := 63) rfl rfl rfl ?_
          refine sbY rfl (decide_eq_true (Classical.not_not.1 h58)) rfl ?_
          refine gY (g := 66) rfl rfl rfl ?_
          refine st (X.ldBN rfl hB9 Try.underlying71 rfl siz71) rfl ?_
          refine gY (g := 66) rfl rfl rfl ?_
          replace hE := hE.bel hpend
          replace hD := hD.bel hpend
          replace hA := hA.bel hpend
          replace hZ := hZ.bel hpend
          clear hpend
          refine sc _ Try.func48 rfl (by kernel_rfl) rfl rfl ((Encode_any _ (decM s).1 _ hZ (dec_S32 s) (by omega)).mono ?_)
          rintro e_ w22 ⟨rfl, hb⟩
          refine cR ?_
          have hpend := hb
          replace hbw := bthen hbw hb
          replace hB5 := hB5.bel hb
          replace hB7 := hB7.bel hb
          replace hB9 := hB9.bel hb
          have hz_w22 := hb.size
          clear hb
          refine gY (g := 66) rfl rfl rfl ?_
          refine sm rfl rfl ?_
          refine gY (g := 66) rfl rfl rfl ?_
          refine st (X.eqS rfl rfl) rfl ?_
          refine gY (g := 63) rfl rfl rfl ?_
          refine st (X.pickT rfl rfl) rfl ?_
          refine st (X.pickF rfl rfl) rfl ?_
          refine sbY rfl (decide_eq_true (by rw [hz0.2.2.2]; exact hz0.2.2.1)) rfl ?_
          refine gY (g := 73) rfl rfl rfl ?_
          refine sc _ Try.func44 rfl (by kernel_rfl) rfl rfl ((fawake_any _).mono ?_)
          rintro e_ w23 ⟨rfl, hb⟩
          refine cR ?_
          replace hpend := bthen hpend hb
          replace hbw := bthen hbw hb
          replace hB5 := hB5.bel hb
          replace hB7 := hB7.bel hb
          replace hB9 := hB9.bel hb
          have hz_w23 := hb.size
          clear hb
          refine st (X.pickT rfl rfl) rfl ?_
          refine sa rfl rfl ?_
          refine Wn ?_
          refine tN ?_
          replace hE := hE.bel hpend
          replace hD := hD.bel hpend
          replace hA := hA.bel hpend
          replace hZ := hZ.bel hpend
          clear hpend
          refine W_ret ?_
          exact (rT rfl rfl ⟨rfl, hbw⟩).1
      · first | replace h26 := of_decide_eq_false h26 | replace h26 := of_decide_eq_true (notF h26) | replace h26 := notF h26 | skip
        refine W_skip ?_
        refine tN ?_
        refine W_rs ?_
        refine sm rfl rfl ?_
        refine sc _ Try.func50 rfl (by kernel_rfl) rfl rfl ((Decode_any s _ (by omega)).mono ?_)
        rintro e_ w24 ⟨vz, rfl, hZ, hb⟩
        refine cR ?_
        replace hpend := bthen hpend hb
        replace hbw := bthen hbw hb
        replace hB5 := hB5.bel hb
        have hz_w24 := hb.size
        clear hb
        obtain ⟨az, cz, rfl, _, _⟩ := hZ.shape
        replace hE := hE.bel hpend
        clear hpend
        refine sm rfl rfl ?_
        refine st (X.ext rfl rfl) rfl ?_
        refine st (X.ext rfl rfl) rfl ?_
        refine salA inf71 rfl (fun g9 w25 hB9 hg9 hb hl9 => ?_)
        have hpend := hb
        replace hbw := bthen hbw hb
        replace hB5 := hB5.bel hb
        have hz_w25 := hb.size
        clear hb
        refine ssBN rfl rfl hB9 siz71 rfl rfl (fun w26 hB_ hc_ => ?_)
        replace hB9 := hB_
        clear hB_
        replace hpend := bset hpend hc_ (by omega)
        replace hB5 := hB5.chg hc_ (by first | (show ¬ _ = _; omega) | (intro k_ hk_; simp [Value.ownBlock] at hk_; subst hk_; show ¬ _ = _; omega))
        replace hbw := bset hbw hc_ (by omega)
        have hz_w26 := hc_.size
        clear hc_
        refine sa rfl rfl ?_
        refine Wn ?_
        refine tN ?_
        refine W_rs ?_
        refine sm rfl rfl ?_
        refine st (X.neq rfl rfl) rfl ?_
        refine sb rfl rfl (fun h58 => ?_) (fun h58 => ?_)
        · first | replace h58 := of_decide_eq_true h58 | replace h58 := of_decide_eq_false (notT h58) | replace h58 := notT h58 | skip
          have hz0 := dec_bad h58
          refine gY (g := 58) rfl rfl rfl ?_
          refine st (X.ldBN rfl hB9 Try.underlying71 rfl siz71) rfl ?_
          refine gY (g := 58) rfl rfl rfl ?_
          replace hE := hE.bel hpend
          replace hZ := hZ.bel hpend
          clear hpend
          refine sc _ Try.func51 rfl (by kernel_rfl) rfl rfl ((ILen_any _ (decM s).1 _ hZ).mono ?_)
          rintro e_ w27 ⟨rfl, hb⟩
          refine cR ?_
          have hpend := hb
          replace hbw := bthen hbw hb
          replace hB5 := hB5.bel hb
          replace hB9 := hB9.bel hb
          have hz_w27 := hb.size
          clear hb
          refine gY (g := 58) rfl rfl rfl ?_
          refine st (X.eql rfl rfl) rfl ?_
          refine st (X.pickT rfl rfl) rfl ?_
          refine sbY rfl (by rw [hz0]; rfl) rfl ?_
          refine gN (g := 63) rfl rfl rfl rfl ?_
          refine gN (g := 63) rfl rfl rfl rfl ?_
          refine gN (g := 63) rfl rfl rfl rfl ?_
          refine gU (g := 66) rfl rfl rfl rfl ?_
          refine gU (g := 66) rfl rfl rfl rfl ?_
          refine gU (g := 66) rfl rfl rfl rfl ?_
          refine gU (g := 66) rfl rfl rfl rfl ?_
          refine gN (g := 63) rfl rfl rfl rfl ?_
          refine st (X.pickT rfl rfl) rfl ?_
          refine sm rfl rfl ?_
          refine gY (g := 73) rfl rfl rfl ?_
          refine sc _ Try.func44 rfl (by kernel_rfl) rfl rfl ((fawake_any _).mono ?_)
          rintro e_ w28 ⟨rfl, hb⟩
          refine cR ?_
          replace hpend := bthen hpend hb
          replace hbw := bthen hbw hb
          replace hB5 := hB5.bel hb
          replace hB9 := hB9.bel hb
          have hz_w28 := hb.size
          clear hb
          refine st (X.pickT rfl rfl) rfl ?_
          refine sa rfl rfl ?_
          refine Wn ?_
          refine tN ?_
          replace hE := hE.bel hpend
          replace hZ := hZ.bel hpend
          clear hpend
          refine W_ret ?_
          exact (rT rfl rfl ⟨rfl, hbw⟩).1
        · first | replace h58 := of_decide_eq_false h58 | replace h58 := of_decide_eq_true (notF h58) | replace h58 := notF h58 | skip
          have hz0 := dec_ok (Classical.not_not.1 h58)
          refine gN (g := 58) rfl rfl rfl rfl ?_
          refine gN (g := 58) rfl rfl rfl rfl ?_
          refine gN (g := 58) rfl rfl rfl rfl ?_
          refine st (X.pickF rfl rfl) rfl ?_
          refine sm rfl rfl ?_
          refine gY (g := 63) rfl rfl rfl ?_
          refine sm rfl rfl ?_
          refine gY (g := 63) rfl rfl rfl ?_
          refine st (X.eql rfl rfl) rfl ?_
          refine gY (g := 63) rfl rfl rfl ?_
          refine sbY rfl (decide_eq_true (Classical.not_not.1 h58)) rfl ?_
          refine gY (g := 66) rfl rfl rfl ?_
          refine st (X.ldBN rfl hB9 Try.underlying71 rfl siz71) rfl ?_
          refine gY (g := 66) rfl rfl rfl ?_
          replace hE := hE.bel hpend
          replace hZ := hZ.bel hpend
          clear hpend
          refine sc _ Try.func48 rfl (by kernel_rfl) rfl rfl ((Encode_any _ (decM s).1 _ hZ (dec_S32 s) (by omega)).mono ?_)
          rintro e_ w29 ⟨rfl, hb⟩
          refine cR ?_
          have hpend := hb
          replace hbw := bthen hbw hb
          replace hB5 := hB5.bel hb
          replace hB9 := hB9.bel hb
          have hz_w29 := hb.size
          clear hb
          refine gY (g := 66) rfl rfl rfl ?_
          refine sm rfl rfl ?_
          refine gY (g := 66) rfl rfl rfl ?_
          refine st (X.eqS rfl rfl) rfl ?_
          refine gY (g := 63) rfl rfl rfl ?_
          refine st (X.pickT rfl rfl) rfl ?_
          refine st (X.pickF rfl rfl) rfl ?_
          refine sbY rfl (decide_eq_true (by rw [hz0.2.2.2]; exact hz0.2.2.1)) rfl ?_
          refine gY (g := 73) rfl rfl rfl ?_
          refine sc _ Try.func44 rfl (by kernel_rfl) rfl rfl ((fawake_any _).mono ?_)
          rintro e_ w30 ⟨rfl, hb⟩
          refine cR ?_
          replace hpend := bthen hpend hb
          replace hbw := bthen hbw hb
          replace hB5 := hB5.bel hb
          replace hB9 := hB9.bel hb
          have hz_w30 := hb.size
          clear hb
          refine st (X.pickT rfl rfl) rfl ?_
          refine sa rfl rfl ?_
          refine Wn ?_
          refine tN ?_
          replace hE := hE.bel hpend
          replace hZ := hZ.bel hpend
          clear hpend
          refine W_ret ?_
          exact (rT rfl rfl ⟨rfl, hbw⟩).1
end Go.Proofs.Ytnagmpnpgekhfaa
