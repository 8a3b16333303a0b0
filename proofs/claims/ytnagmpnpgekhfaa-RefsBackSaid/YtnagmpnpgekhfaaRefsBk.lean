/- The law RefsBack. -/
import Derived.Test.YtnagmpnpgekhfaaRefsUnps
namespace Go.Proofs.Ytnagmpnpgekhfaa
open Go.RowKit
theorem pack_zero {l : List Chk} (h : errO (packM l) = 0) : packM l = .ok (packedM l) ∧ mayM l = 0 ∧ netM l = l := by
  unfold packM at h ⊢
  split at h
  · rename_i h1; exact absurd h h1
  · rename_i h1
    split at h
    · rename_i h2; exact ⟨by rw [if_neg h1, if_pos h2], Classical.not_not.1 h1, h2⟩
    · cases h
theorem packed_small {l : List Chk} (h32 : ∀ c ∈ l, c.sum.length = 32) (hl : l.length ≤ 16000) : (packedM l).length < 1000000 := by
  rw [packed_length l h32]; omega
theorem pack_unpack {l : List Chk} (h : errO (packM l) = 0) (h32 : ∀ c ∈ l, c.sum.length = 32) : unpackM (packedM l) = .ok l := by
  obtain ⟨_, h2, h3⟩ := pack_zero h
  have h4 := mayM_ok h2
  have hs : Srt l := by have := (isNet l).srt; rwa [h3] at this
  refine unpack_packed hs (fun c hc => ?_) h4.1
  have := h4.2 c hc
  refine ⟨h32 c hc, this.1, this.2, ?_⟩
  exact (((isNet l).mem c).1 (by rw [h3]; exact hc)).2
theorem unpack_pack {s : List UInt8} {m : List Chk} (h : unpackM s = .ok m) : packM m = .ok s := by
  obtain ⟨h1, h2, h3, h4⟩ := unpack_ok h
  unfold packM
  rw [mayM_of h3 (fun c hc => ⟨(h2 c hc).2.1, (h2 c hc).2.2.1⟩), if_neg (by omega), if_pos (netM_self h1 (fun c hc => (h2 c hc).2.2.2)), h4]
theorem cnts_dec {x : List Chk} (h : Cnts x) (hl : x.length ≤ 16000) : decodeC (packedM x) = .ok x :=
  decode_pos (unpack_packed h.srt (fun c hc => by have := h.pos c hc; exact ⟨h.sum c hc, by omega, by omega, by omega⟩) hl) (List.any_eq_false.2 fun c hc => by
    have := h.pos c hc
    rw [show negN c = false from decide_eq_false (by omega)]; simp)
theorem add_len (l : List Chk) : (addM [] l).1.length ≤ l.length := by
  unfold addM
  split
  · simp
  split
  · simp
  · exact netM_length l
theorem add_bad {l : List Chk} (h : (addM [] l).2.2 ≠ 0) : (addM [] l).1 = [] := by
  unfold addM at h ⊢
  split
  · rfl
  split
  · rfl
  · rename_i h1 h2
    rw [if_neg h1, if_neg h2] at h
    exact absurd rfl h
set_option maxRecDepth 10000 in
theorem RefsBk_no {s : List UInt8} {k : Int} (w : World) (v : Value) (l : List Chk) (h : ChksAt w v l) (hs : s.length ≤ 9223372036854775807) (hd : decodeC s = .error k) : Calls Try.prog 9 #[v, str s] w fun e w' => e = .returned (.bool true) ∧ Below w.heap.size w w' := by
  have hk := decode_err hd
  refine W_enter (args := [v, str s]) 128 Try.func9 rfl rfl rfl ?_
  refine W_sub [(0, v), (1, str s)] ?_ ⟨rfl, rfl, trivial⟩
  have hbw := Below.refl w.heap.size w
  refine W_rs ?_
  refine sa rfl rfl ?_
  refine Wn ?_
  refine tN ?_
  refine W_seq ?_
  refine W_rs ?_
  refine sm rfl rfl ?_
  refine sc _ Try.func17 rfl (by kernel_rfl) rfl rfl ((small_any v l _ (h.bel hbw)).mono ?_)
  rintro e_ w1 ⟨rfl, hb⟩
  refine cR ?_
  replace hbw := bthen hbw hb
  have hz_w1 := hb.size
  clear hb
  refine st (X.not rfl) rfl ?_
  refine sb rfl rfl (fun h23 => ?_) (fun h23 => ?_)
  · first | replace h23 := of_decide_eq_true h23 | replace h23 := of_decide_eq_false (notT h23) | replace h23 := notT h23 | skip
    refine gN (g := 23) rfl rfl rfl rfl ?_
    refine gN (g := 23) rfl rfl rfl rfl ?_
    refine gN (g := 23) rfl rfl rfl rfl ?_
    refine st (X.pickT rfl rfl) rfl ?_
    refine Wn ?_
    refine tN ?_
    refine W_yes rfl (rfl) ?_
    refine W_rs ?_
    refine sc _ Try.func18 rfl (by kernel_rfl) rfl rfl ((awake_any _).mono ?_)
    rintro e_ w2 ⟨rfl, hb⟩
    refine cR ?_
    replace hbw := bthen hbw hb
    have hz_w2 := hb.size
    clear hb
    refine sa rfl rfl ?_
    refine Wn ?_
    refine tN ?_
    refine W_ret (tR ?_)
    exact (rT rfl rfl ⟨rfl, hbw⟩).1
  · first | replace h23 := of_decide_eq_false h23 | replace h23 := of_decide_eq_true (notF h23) | replace h23 := notF h23 | skip
    refine gY (g := 23) rfl rfl rfl ?_
    refine sm rfl rfl ?_
    refine gY (g := 23) rfl rfl rfl ?_
    refine st (X.lenS rfl rfl Try.underlying9) rfl ?_
    refine gY (g := 23) rfl rfl rfl ?_
    refine st (X.gtr rfl rfl) rfl ?_
    refine st (X.pickF rfl rfl) rfl ?_
    refine Wn ?_
    refine tN ?_
    refine W_if rfl (fun h27 => ?_) (fun h27 => ?_)
    · first | replace h27 := of_decide_eq_true h27 | replace h27 := of_decide_eq_false (notT h27) | replace h27 := notT h27 | skip
      refine W_rs ?_
      refine sc _ Try.func18 rfl (by kernel_rfl) rfl rfl ((awake_any _).mono ?_)
      rintro e_ w3 ⟨rfl, hb⟩
      refine cR ?_
      replace hbw := bthen hbw hb
      have hz_w3 := hb.size
      clear hb
      refine sa rfl rfl ?_
      refine Wn ?_
      refine tN ?_
      refine W_ret (tR ?_)
      exact (rT rfl rfl ⟨rfl, hbw⟩).1
    · first | replace h27 := of_decide_eq_false h27 | replace h27 := of_decide_eq_true (notF h27) | replace h27 := notF h27 | skip
      refine W_skip ?_
      refine tN ?_
      refine W_rs ?_
      obtain ⟨htm, hll⟩ := smallM_ok (l := l) (by simpa using h23)
      have h32 := h.2
      refine sm rfl rfl ?_
      refine sc _ Try.func19 rfl (by kernel_rfl) rfl rfl ((Pack_any v l _ (h.bel hbw)).mono ?_)
      rintro e_ w4 ⟨rfl, hb⟩
      refine cR ?_
      replace hbw := bthen hbw hb
      have hz_w4 := hb.size
      clear hb
      refine sm rfl rfl ?_
      refine st (X.ext rfl rfl) rfl ?_
      refine st (X.ext rfl rfl) rfl ?_
      refine sa rfl rfl ?_
      refine sa rfl rfl ?_
      refine Wn ?_
      refine tN ?_
      refine W_seq ?_
      refine W_rs ?_
      refine sm rfl rfl ?_
      refine st (X.eql rfl rfl) rfl ?_
      refine Wn ?_
      refine tN ?_
      refine W_if rfl (fun h35 => ?_) (fun h35 => ?_)
      · first | replace h35 := of_decide_eq_true h35 | replace h35 := of_decide_eq_false (notT h35) | replace h35 := notT h35 | skip
        have hpz := pack_zero h35
        rw [hpz.1]
        refine W_rs ?_
        refine sm rfl rfl ?_
        refine sc _ Try.func40 rfl (by kernel_rfl) rfl rfl ((Unpack_any (packedM l) _ (packed_small h32 (by omega))).mono ?_)
        rintro e_ w5 ⟨v7, rfl, hR7, hO7, hb⟩
        refine cR ?_
        replace hbw := bthen hbw hb
        have hz_w5 := hb.size
        clear hb
        rw [pack_unpack h35 h32] at hR7
        rw [pack_unpack h35 h32]
        refine sm rfl rfl ?_
        refine st (X.ext rfl rfl) rfl ?_
        refine st (X.ext rfl rfl) rfl ?_
        refine sa rfl rfl ?_
        refine sa rfl rfl ?_
        refine Wn ?_
        refine tN ?_
        refine W_rs ?_
        refine sm rfl rfl ?_
        refine st (X.neq rfl rfl) rfl ?_
        refine sbN rfl (by simp [errO]) rfl ?_
        refine gY (g := 43) rfl rfl rfl ?_
        refine sm rfl rfl ?_
        refine gY (g := 43) rfl rfl rfl ?_
        refine sm rfl rfl ?_
        refine gY (g := 43) rfl rfl rfl ?_
        refine sc _ Try.func21 rfl (by kernel_rfl) rfl rfl ((Plain_any v l _ (h.bel hbw) (by omega)).mono ?_)
        rintro e_ w6 ⟨vp, rfl, hP, hOp, hb⟩
        refine cR ?_
        have hpend := hb
        replace hbw := bthen hbw hb
        have hz_w6 := hb.size
        clear hb
        refine gY (g := 43) rfl rfl rfl ?_
        replace hR7 := hR7.bel hpend
        clear hpend
        refine sc _ Try.func22 rfl (by kernel_rfl) rfl rfl ((Same_any v7 vp l l _ ⟨hR7.reads, h32⟩ (by omega) hP.reads).mono ?_)
        rintro e_ w7 ⟨rfl, hb⟩
        refine cR ?_
        have hpend := hb
        replace hbw := bthen hbw hb
        have hz_w7 := hb.size
        clear hb
        refine gY (g := 43) rfl rfl rfl ?_
        refine st (X.not rfl) rfl ?_
        refine st (X.pickF rfl rfl) rfl ?_
        refine Wn ?_
        refine tN ?_
        refine W_no rfl (by simp) ?_
        refine W_skip ?_
        refine tN ?_
        refine W_rs ?_
        refine sc _ Try.func25 rfl (by kernel_rfl) rfl rfl ((New_any _).mono ?_)
        rintro e_ w8 ⟨g, b, rfl, hK, hgl, hbl, hgb, hb⟩
        refine cR ?_
        replace hbw := bthen hbw hb
        have hz_w8 := hb.size
        clear hb
        have hgw : w.heap.size ≤ g := by have := hbw.size; omega
        have hbg : w.heap.size ≤ b := by have := hbw.size; omega
        clear hpend
        refine sa rfl rfl ?_
        refine Wn ?_
        refine tN ?_
        refine W_rs ?_
        refine sm rfl rfl ?_
        refine sm rfl rfl ?_
        refine sc _ Try.func26 rfl (by kernel_rfl) rfl rfl ((Add_any g b [] v l _ hK cnts_nil (h.bel hbw)).mono ?_)
        rintro e_ w9 hadd
        have hac := addM_cnts cnts_nil (l := l) h32
        have hal := add_len l
        have hab := add_bad (l := l)
        obtain ⟨⟨x, gn, er⟩, hr⟩ : ∃ r, addM [] l = r := ⟨_, rfl⟩
        rw [hr] at hadd hac hal hab
        obtain ⟨v2, rfl, hG2, hO2, hC2, hch⟩ := hadd
        refine cR ?_
        replace hK := hC2
        replace hbw := bset hbw hch (by omega)
        have hz92 := hch.size
        clear hch hC2 hG2 hr
        have hxl : x.length ≤ 60 := Nat.le_trans hal hll
        have hxs : ∀ c ∈ x, c.sum.length = 32 := hac.sum
        have hxn : netM x = x := hac.net
        refine sm rfl rfl ?_
        refine st (X.ext rfl rfl) rfl ?_
        refine st (X.ext rfl rfl) rfl ?_
        refine sa rfl rfl ?_
        refine sa rfl rfl ?_
        refine Wn ?_
        refine tN ?_
        refine W_rs ?_
        refine sm rfl rfl ?_
        refine sc _ Try.func32 rfl (by kernel_rfl) rfl rfl ((Encode_cnt g b x _ hK hxs (by omega)).mono ?_)
        rintro e_ w10 ⟨rfl, hb⟩
        refine cR ?_
        have hpend := hb
        replace hbw := bthen hbw hb
        have hz_w10 := hb.size
        clear hb
        rw [hxn]
        refine sc _ Try.func42 rfl (by kernel_rfl) rfl rfl ((Decode_yes _ (packed_small hxs (by omega)) (cnts_dec hac (by omega))).mono ?_)
        rintro e_ w11 ⟨g2, b2, rfl, hK2, hgl2, hbl2, hgb2, hb⟩
        refine cR ?_
        replace hpend := bthen hpend hb
        replace hbw := bthen hbw hb
        have hz_w11 := hb.size
        clear hb
        replace hK := hK.bel hpend
        clear hpend
        refine sm rfl rfl ?_
        refine st (X.ext rfl rfl) rfl ?_
        refine st (X.ext rfl rfl) rfl ?_
        refine sa rfl rfl ?_
        refine sa rfl rfl ?_
        refine Wn ?_
        refine tN ?_
        refine W_seq ?_
        refine W_rs ?_
        refine sm rfl rfl ?_
        refine st (X.neq rfl rfl) rfl ?_
        refine sbN rfl (by simp) rfl ?_
        refine gY (g := 65) rfl rfl rfl ?_
        refine sm rfl rfl ?_
        refine gY (g := 65) rfl rfl rfl ?_
        refine st (X.nilP rfl) rfl ?_
        refine st (X.pickF rfl rfl) rfl ?_
        refine sbN rfl (rfl) rfl ?_
        refine gY (g := 69) rfl rfl rfl ?_
        refine sm rfl rfl ?_
        refine gY (g := 69) rfl rfl rfl ?_
        refine sc _ Try.func32 rfl (by kernel_rfl) rfl rfl ((Encode_cnt g2 b2 x _ hK2 hxs (by omega)).mono ?_)
        rintro e_ w12 ⟨rfl, hb⟩
        refine cR ?_
        have hpend := hb
        replace hbw := bthen hbw hb
        have hz_w12 := hb.size
        clear hb
        refine gY (g := 69) rfl rfl rfl ?_
        refine sm rfl rfl ?_
        refine gY (g := 69) rfl rfl rfl ?_
        replace hK := hK.bel hpend
        replace hK2 := hK2.bel hpend
        clear hpend
        refine sc _ Try.func32 rfl (by kernel_rfl) rfl rfl ((Encode_cnt g b x _ hK hxs (by omega)).mono ?_)
        rintro e_ w13 ⟨rfl, hb⟩
        refine cR ?_
        have hpend := hb
        replace hbw := bthen hbw hb
        have hz_w13 := hb.size
        clear hb
        refine gY (g := 69) rfl rfl rfl ?_
        refine st (X.neS rfl rfl) rfl ?_
        refine st (X.pickF rfl rfl) rfl ?_
        refine sbN rfl (by simp) rfl ?_
        refine gY (g := 76) rfl rfl rfl ?_
        refine sm rfl rfl ?_
        refine gY (g := 76) rfl rfl rfl ?_
        refine st (X.neq rfl rfl) rfl ?_
        refine gY (g := 76) rfl rfl rfl ?_
        refine sb rfl rfl (fun h79 => ?_) (fun h79 => ?_)
        · first | replace h79 := of_decide_eq_true h79 | replace h79 := of_decide_eq_false (notT h79) | replace h79 := notT h79 | skip
          refine gY (g := 79) rfl rfl rfl ?_
          refine sm rfl rfl ?_
          refine gY (g := 79) rfl rfl rfl ?_
          replace hK := hK.bel hpend
          replace hK2 := hK2.bel hpend
          clear hpend
          refine sc _ Try.func29 rfl (by kernel_rfl) rfl rfl ((Len_any g b x _ hK hxs).mono ?_)
          rintro e_ w14 ⟨rfl, hb⟩
          refine cR ?_
          have hpend := hb
          replace hbw := bthen hbw hb
          have hz_w14 := hb.size
          clear hb
          rw [hxn, show x = [] from hab (by simpa using h79)]
          refine gY (g := 79) rfl rfl rfl ?_
          refine st (X.neq rfl rfl) rfl ?_
          refine gY (g := 76) rfl rfl rfl ?_
          refine st (X.pickT rfl rfl) rfl ?_
          refine st (X.pickF rfl rfl) rfl ?_
          refine Wn ?_
          refine tN ?_
          refine W_no rfl (by simp) ?_
          refine W_skip ?_
          refine tN ?_
          refine W_rs ?_
          refine sm rfl rfl ?_
          refine sc _ Try.func40 rfl (by kernel_rfl) rfl rfl ((Unpack_any s _ (by omega)).mono ?_)
          rintro e_ w15 ⟨v8, rfl, hR8, hO8, hb⟩
          refine cR ?_
          replace hpend := bthen hpend hb
          replace hbw := bthen hbw hb
          have hz_w15 := hb.size
          clear hb
          replace hK := hK.bel hpend
          replace hK2 := hK2.bel hpend
          clear hpend
          refine sm rfl rfl ?_
          refine st (X.ext rfl rfl) rfl ?_
          refine st (X.ext rfl rfl) rfl ?_
          refine sa rfl rfl ?_
          refine sa rfl rfl ?_
          refine Wn ?_
          refine tN ?_
          refine W_seq ?_
          refine W_rs ?_
          refine sm rfl rfl ?_
          refine st (X.eql rfl rfl) rfl ?_
          refine Wn ?_
          refine tN ?_
          refine W_if rfl (fun h91 => ?_) (fun h91 => ?_)
          · first | replace h91 := of_decide_eq_true h91 | replace h91 := of_decide_eq_false (notT h91) | replace h91 := notT h91 | skip
            have hu := unpack_zero (s := s) (fun h => h h91)
            obtain ⟨m, hm⟩ : ∃ m, okOf [] (unpackM s) = m := ⟨_, rfl⟩
            rw [hm] at hu hR8
            have hm32 : ∀ c ∈ m, c.sum.length = 32 := fun c hc => ((unpack_ok hu).2.1 c hc).1
            refine W_rs ?_
            refine sm rfl rfl ?_
            refine sc _ Try.func19 rfl (by kernel_rfl) rfl rfl ((Pack_any v8 m _ ⟨hR8.reads, hm32⟩).mono ?_)
            rintro e_ w16 ⟨rfl, hb⟩
            refine cR ?_
            have hpend := hb
            replace hbw := bthen hbw hb
            have hz_w16 := hb.size
            clear hb
            rw [unpack_pack hu]
            refine sm rfl rfl ?_
            refine st (X.ext rfl rfl) rfl ?_
            refine st (X.ext rfl rfl) rfl ?_
            refine sa rfl rfl ?_
            refine sa rfl rfl ?_
            refine Wn ?_
            refine tN ?_
            refine W_rs ?_
            refine sm rfl rfl ?_
            refine st (X.neq rfl rfl) rfl ?_
            refine sbN rfl (by simp [errO]) rfl ?_
            refine gY (g := 99) rfl rfl rfl ?_
            refine sm rfl rfl ?_
            refine gY (g := 99) rfl rfl rfl ?_
            refine sm rfl rfl ?_
            refine gY (g := 99) rfl rfl rfl ?_
            refine st (X.neS rfl rfl) rfl ?_
            refine st (X.pickF rfl rfl) rfl ?_
            refine Wn ?_
            refine tN ?_
            refine W_no rfl (by simp [okOf]) ?_
            refine W_skip ?_
            refine tN ?_
            refine W_rs ?_
            refine sm rfl rfl ?_
            refine sc _ Try.func42 rfl (by kernel_rfl) rfl rfl ((Decode_no _ (by omega) hd).mono ?_)
            rintro e_ w17 ⟨rfl, hb⟩
            refine cR ?_
            replace hpend := bthen hpend hb
            replace hbw := bthen hbw hb
            have hz_w17 := hb.size
            clear hb
            refine sm rfl rfl ?_
            refine st (X.ext rfl rfl) rfl ?_
            refine st (X.ext rfl rfl) rfl ?_
            refine sa rfl rfl ?_
            refine sa rfl rfl ?_
            refine Wn ?_
            refine tN ?_
            refine W_rs ?_
            refine sm rfl rfl ?_
            refine st (X.neq rfl rfl) rfl ?_
            refine sbY rfl (by simp [hk]) rfl ?_
            refine gY (g := 111) rfl rfl rfl ?_
            refine sm rfl rfl ?_
            refine gY (g := 111) rfl rfl rfl ?_
            refine st (X.nilN rfl) rfl ?_
            refine st (X.pickT rfl rfl) rfl ?_
            refine sbY rfl (rfl) rfl ?_
            refine gN (g := 115) rfl rfl rfl rfl ?_
            refine gN (g := 115) rfl rfl rfl rfl ?_
            refine gN (g := 115) rfl rfl rfl rfl ?_
            refine gU (g := 118) rfl rfl rfl rfl ?_
            refine gU (g := 118) rfl rfl rfl rfl ?_
            refine gU (g := 118) rfl rfl rfl rfl ?_
            refine gU (g := 118) rfl rfl rfl rfl ?_
            refine gN (g := 115) rfl rfl rfl rfl ?_
            refine st (X.pickT rfl rfl) rfl ?_
            refine sm rfl rfl ?_
            refine gY (g := 125) rfl rfl rfl ?_
            refine sc _ Try.func18 rfl (by kernel_rfl) rfl rfl ((awake_any _).mono ?_)
            rintro e_ w18 ⟨rfl, hb⟩
            refine cR ?_
            replace hpend := bthen hpend hb
            replace hbw := bthen hbw hb
            have hz_w18 := hb.size
            clear hb
            refine st (X.pickT rfl rfl) rfl ?_
            refine sa rfl rfl ?_
            refine Wn ?_
            refine tN ?_
            replace hK := hK.bel hpend
            replace hK2 := hK2.bel hpend
            replace hR8 := hR8.bel hpend
            clear hpend
            refine W_ret ?_
            exact (rT rfl rfl ⟨rfl, hbw⟩).1
          · first | replace h91 := of_decide_eq_false h91 | replace h91 := of_decide_eq_true (notF h91) | replace h91 := notF h91 | skip
            refine W_skip ?_
            refine tN ?_
            refine W_rs ?_
            refine sm rfl rfl ?_
            refine sc _ Try.func42 rfl (by kernel_rfl) rfl rfl ((Decode_no _ (by omega) hd).mono ?_)
            rintro e_ w19 ⟨rfl, hb⟩
            refine cR ?_
            have hpend := hb
            replace hbw := bthen hbw hb
            have hz_w19 := hb.size
            clear hb
            refine sm rfl rfl ?_
            refine st (X.ext rfl rfl) rfl ?_
            refine st (X.ext rfl rfl) rfl ?_
            refine sa rfl rfl ?_
            refine sa rfl rfl ?_
            refine Wn ?_
            refine tN ?_
            refine W_rs ?_
            refine sm rfl rfl ?_
            refine st (X.neq rfl rfl) rfl ?_
            refine sbY rfl (by simp [hk]) rfl ?_
            refine gY (g := 111) rfl rfl rfl ?_
            refine sm rfl rfl ?_
            refine gY (g := 111) rfl rfl rfl ?_
            refine st (X.nilN rfl) rfl ?_
            refine st (X.pickT rfl rfl) rfl ?_
            refine sbY rfl (rfl) rfl ?_
            refine gN (g := 115) rfl rfl rfl rfl ?_
            refine gN (g := 115) rfl rfl rfl rfl ?_
            refine gN (g := 115) rfl rfl rfl rfl ?_
            refine gU (g := 118) rfl rfl rfl rfl ?_
            refine gU (g := 118) rfl rfl rfl rfl ?_
            refine gU (g := 118) rfl rfl rfl rfl ?_
            refine gU (g := 118) rfl rfl rfl rfl ?_
            refine gN (g := 115) rfl rfl rfl rfl ?_
            refine st (X.pickT rfl rfl) rfl ?_
            refine sm rfl rfl ?_
            refine gY (g := 125) rfl rfl rfl ?_
            refine sc _ Try.func18 rfl (by kernel_rfl) rfl rfl ((awake_any _).mono ?_)
            rintro e_ w20 ⟨rfl, hb⟩
            refine cR ?_
            replace hpend := bthen hpend hb
            replace hbw := bthen hbw hb
            have hz_w20 := hb.size
            clear hb
            refine st (X.pickT rfl rfl) rfl ?_
            refine sa rfl rfl ?_
            refine Wn ?_
            refine tN ?_
            replace hK := hK.bel hpend
            replace hK2 := hK2.bel hpend
            replace hR8 := hR8.bel hpend
            clear hpend
            refine W_ret ?_
            exact (rT rfl rfl ⟨rfl, hbw⟩).1
        · first | replace h79 := of_decide_eq_false h79 | replace h79 := of_decide_eq_true (notF h79) | replace h79 := notF h79 | skip
          refine gN (g := 79) rfl rfl rfl rfl ?_
          refine gN (g := 79) rfl rfl rfl rfl ?_
          refine gN (g := 79) rfl rfl rfl rfl ?_
          refine gY (g := 76) rfl rfl rfl ?_
          refine st (X.pickF rfl rfl) rfl ?_
          refine st (X.pickF rfl rfl) rfl ?_
          refine Wn ?_
          refine tN ?_
          refine W_no rfl (by simp) ?_
          refine W_skip ?_
          refine tN ?_
          refine W_rs ?_
          refine sm rfl rfl ?_
          refine sc _ Try.func40 rfl (by kernel_rfl) rfl rfl ((Unpack_any s _ (by omega)).mono ?_)
          rintro e_ w21 ⟨v8, rfl, hR8, hO8, hb⟩
          refine cR ?_
          replace hpend := bthen hpend hb
          replace hbw := bthen hbw hb
          have hz_w21 := hb.size
          clear hb
          replace hK := hK.bel hpend
          replace hK2 := hK2.bel hpend
          clear hpend
          refine sm rfl rfl ?_
          refine st (X.ext rfl rfl) rfl ?_
          refine st (X.ext rfl rfl) rfl ?_
          refine sa rfl rfl ?_
          refine sa rfl rfl ?_
          refine Wn ?_
          refine tN ?_
          refine W_seq ?_
          refine W_rs ?_
          refine sm rfl rfl ?_
          refine st (X.eql rfl rfl) rfl ?_
          refine Wn ?_
          refine tN ?_
          refine W_if rfl (fun h91 => ?_) (fun h91 => ?_)
          · first | replace h91 := of_decide_eq_true h91 | replace h91 := of_decide_eq_false (notT h91) | replace h91 := notT h91 | skip
            have hu := unpack_zero (s := s) (fun h => h h91)
            obtain ⟨m, hm⟩ : ∃ m, okOf [] (unpackM s) = m := ⟨_, rfl⟩
            rw [hm] at hu hR8
            have hm32 : ∀ c ∈ m, c.sum.length = 32 := fun c hc => ((unpack_ok hu).2.1 c hc).1
            refine W_rs ?_
            refine sm rfl rfl ?_
            refine sc _ Try.func19 rfl (by kernel_rfl) rfl rfl ((Pack_any v8 m _ ⟨hR8.reads, hm32⟩).mono ?_)
            rintro e_ w22 ⟨rfl, hb⟩
            refine cR ?_
            have hpend := hb
            replace hbw := bthen hbw hb
            have hz_w22 := hb.size
            clear hb
            rw [unpack_pack hu]
            refine sm rfl rfl ?_
            refine st (X.ext rfl rfl) rfl ?_
            refine st (X.ext rfl rfl) rfl ?_
            refine sa rfl rfl ?_
            refine sa rfl rfl ?_
            refine Wn ?_
            refine tN ?_
            refine W_rs ?_
            refine sm rfl rfl ?_
            refine st (X.neq rfl rfl) rfl ?_
            refine sbN rfl (by simp [errO]) rfl ?_
            refine gY (g := 99) rfl rfl rfl ?_
            refine sm rfl rfl ?_
            refine gY (g := 99) rfl rfl rfl ?_
            refine sm rfl rfl ?_
            refine gY (g := 99) rfl rfl rfl ?_
            refine st (X.neS rfl rfl) rfl ?_
            refine st (X.pickF rfl rfl) rfl ?_
            refine Wn ?_
            refine tN ?_
            refine W_no rfl (by simp [okOf]) ?_
            refine W_skip ?_
            refine tN ?_
            refine W_rs ?_
            refine sm rfl rfl ?_
            refine sc _ Try.func42 rfl (by kernel_rfl) rfl rfl ((Decode_no _ (by omega) hd).mono ?_)
            rintro e_ w23 ⟨rfl, hb⟩
            refine cR ?_
            replace hpend := bthen hpend hb
            replace hbw := bthen hbw hb
            have hz_w23 := hb.size
            clear hb
            refine sm rfl rfl ?_
            refine st (X.ext rfl rfl) rfl ?_
            refine st (X.ext rfl rfl) rfl ?_
            refine sa rfl rfl ?_
            refine sa rfl rfl ?_
            refine Wn ?_
            refine tN ?_
            refine W_rs ?_
            refine sm rfl rfl ?_
            refine st (X.neq rfl rfl) rfl ?_
            refine sbY rfl (by simp [hk]) rfl ?_
            refine gY (g := 111) rfl rfl rfl ?_
            refine sm rfl rfl ?_
            refine gY (g := 111) rfl rfl rfl ?_
            refine st (X.nilN rfl) rfl ?_
            refine st (X.pickT rfl rfl) rfl ?_
            refine sbY rfl (rfl) rfl ?_
            refine gN (g := 115) rfl rfl rfl rfl ?_
            refine gN (g := 115) rfl rfl rfl rfl ?_
            refine gN (g := 115) rfl rfl rfl rfl ?_
            refine gU (g := 118) rfl rfl rfl rfl ?_
            refine gU (g := 118) rfl rfl rfl rfl ?_
            refine gU (g := 118) rfl rfl rfl rfl ?_
            refine gU (g := 118) rfl rfl rfl rfl ?_
            refine gN (g := 115) rfl rfl rfl rfl ?_
            refine st (X.pickT rfl rfl) rfl ?_
            refine sm rfl rfl ?_
            refine gY (g := 125) rfl rfl rfl ?_
            refine sc _ Try.func18 rfl (by kernel_rfl) rfl rfl ((awake_any _).mono ?_)
            rintro e_ w24 ⟨rfl, hb⟩
            refine cR ?_
            replace hpend := bthen hpend hb
            replace hbw := bthen hbw hb
            have hz_w24 := hb.size
            clear hb
            refine st (X.pickT rfl rfl) rfl ?_
            refine sa rfl rfl ?_
            refine Wn ?_
            refine tN ?_
            replace hK := hK.bel hpend
            replace hK2 := hK2.bel hpend
            replace hR8 := hR8.bel hpend
            clear hpend
            refine W_ret ?_
            exact (rT rfl rfl ⟨rfl, hbw⟩).1
          · first | replace h91 := of_decide_eq_false h91 | replace h91 := of_decide_eq_true (notF h91) | replace h91 := notF h91 | skip
            refine W_skip ?_
            refine tN ?_
            refine W_rs ?_
            refine sm rfl rfl ?_
            refine sc _ Try.func42 rfl (by kernel_rfl) rfl rfl ((Decode_no _ (by omega) hd).mono ?_)
            rintro e_ w25 ⟨rfl, hb⟩
            refine cR ?_
            have hpend := hb
            replace hbw := bthen hbw hb
            have hz_w25 := hb.size
            clear hb
            refine sm rfl rfl ?_
            refine st (X.ext rfl rfl) rfl ?_
            refine st (X.ext rfl rfl) rfl ?_
            refine sa rfl rfl ?_
            refine sa rfl rfl ?_
            refine Wn ?_
            refine tN ?_
            refine W_rs ?_
            refine sm rfl rfl ?_
            refine st (X.neq rfl rfl) rfl ?_
            refine sbY rfl (by simp [hk]) rfl ?_
            refine gY (g := 111) rfl rfl rfl ?_
            refine sm rfl rfl ?_
            refine gY (g := 111) rfl rfl rfl ?_
            refine st (X.nilN rfl) rfl ?_
            refine st (X.pickT rfl rfl) rfl ?_
            refine sbY rfl (rfl) rfl ?_
            refine gN (g := 115) rfl rfl rfl rfl ?_
            refine gN (g := 115) rfl rfl rfl rfl ?_
            refine gN (g := 115) rfl rfl rfl rfl ?_
            refine gU (g := 118) rfl rfl rfl rfl ?_
            refine gU (g := 118) rfl rfl rfl rfl ?_
            refine gU (g := 118) rfl rfl rfl rfl ?_
            refine gU (g := 118) rfl rfl rfl rfl ?_
            refine gN (g := 115) rfl rfl rfl rfl ?_
            refine st (X.pickT rfl rfl) rfl ?_
            refine sm rfl rfl ?_
            refine gY (g := 125) rfl rfl rfl ?_
            refine sc _ Try.func18 rfl (by kernel_rfl) rfl rfl ((awake_any _).mono ?_)
            rintro e_ w26 ⟨rfl, hb⟩
            refine cR ?_
            replace hpend := bthen hpend hb
            replace hbw := bthen hbw hb
            have hz_w26 := hb.size
            clear hb
            refine st (X.pickT rfl rfl) rfl ?_
            refine sa rfl rfl ?_
            refine Wn ?_
            refine tN ?_
            replace hK := hK.bel hpend
            replace hK2 := hK2.bel hpend
            replace hR8 := hR8.bel hpend
            clear hpend
            refine W_ret ?_
            exact (rT rfl rfl ⟨rfl, hbw⟩).1
      · first | replace h35 := of_decide_eq_false h35 | replace h35 := of_decide_eq_true (notF h35) | replace h35 := notF h35 | skip
        refine W_skip ?_
        refine tN ?_
        refine W_rs ?_
        refine sc _ Try.func25 rfl (by kernel_rfl) rfl rfl ((New_any _).mono ?_)
        rintro e_ w27 ⟨g, b, rfl, hK, hgl, hbl, hgb, hb⟩
        refine cR ?_
        replace hbw := bthen hbw hb
        have hz_w27 := hb.size
        clear hb
        have hgw : w.heap.size ≤ g := by have := hbw.size; omega
        have hbg : w.heap.size ≤ b := by have := hbw.size; omega
        refine sa rfl rfl ?_
        refine Wn ?_
        refine tN ?_
        refine W_rs ?_
        refine sm rfl rfl ?_
        refine sm rfl rfl ?_
        refine sc _ Try.func26 rfl (by kernel_rfl) rfl rfl ((Add_any g b [] v l _ hK cnts_nil (h.bel hbw)).mono ?_)
        rintro e_ w28 hadd
        have hac := addM_cnts cnts_nil (l := l) h32
        have hal := add_len l
        have hab := add_bad (l := l)
        obtain ⟨⟨x, gn, er⟩, hr⟩ : ∃ r, addM [] l = r := ⟨_, rfl⟩
        rw [hr] at hadd hac hal hab
        obtain ⟨v2, rfl, hG2, hO2, hC2, hch⟩ := hadd
        refine cR ?_
        replace hK := hC2
        replace hbw := bset hbw hch (by omega)
        have hz92 := hch.size
        clear hch hC2 hG2 hr
        have hxl : x.length ≤ 60 := Nat.le_trans hal hll
        have hxs : ∀ c ∈ x, c.sum.length = 32 := hac.sum
        have hxn : netM x = x := hac.net
        refine sm rfl rfl ?_
        refine st (X.ext rfl rfl) rfl ?_
        refine st (X.ext rfl rfl) rfl ?_
        refine sa rfl rfl ?_
        refine sa rfl rfl ?_
        refine Wn ?_
        refine tN ?_
        refine W_rs ?_
        refine sm rfl rfl ?_
        refine sc _ Try.func32 rfl (by kernel_rfl) rfl rfl ((Encode_cnt g b x _ hK hxs (by omega)).mono ?_)
        rintro e_ w29 ⟨rfl, hb⟩
        refine cR ?_
        have hpend := hb
        replace hbw := bthen hbw hb
        have hz_w29 := hb.size
        clear hb
        rw [hxn]
        refine sc _ Try.func42 rfl (by kernel_rfl) rfl rfl ((Decode_yes _ (packed_small hxs (by omega)) (cnts_dec hac (by omega))).mono ?_)
        rintro e_ w30 ⟨g2, b2, rfl, hK2, hgl2, hbl2, hgb2, hb⟩
        refine cR ?_
        replace hpend := bthen hpend hb
        replace hbw := bthen hbw hb
        have hz_w30 := hb.size
        clear hb
        replace hK := hK.bel hpend
        clear hpend
        refine sm rfl rfl ?_
        refine st (X.ext rfl rfl) rfl ?_
        refine st (X.ext rfl rfl) rfl ?_
        refine sa rfl rfl ?_
        refine sa rfl rfl ?_
        refine Wn ?_
        refine tN ?_
        refine W_seq ?_
        refine W_rs ?_
        refine sm rfl rfl ?_
        refine st (X.neq rfl rfl) rfl ?_
        refine sbN rfl (by simp) rfl ?_
        refine gY (g := 65) rfl rfl rfl ?_
        refine sm rfl rfl ?_
        refine gY (g := 65) rfl rfl rfl ?_
        refine st (X.nilP rfl) rfl ?_
        refine st (X.pickF rfl rfl) rfl ?_
        refine sbN rfl (rfl) rfl ?_
        refine gY (g := 69) rfl rfl rfl ?_
        refine sm rfl rfl ?_
        refine gY (g := 69) rfl rfl rfl ?_
        refine sc _ Try.func32 rfl (by kernel_rfl) rfl rfl ((Encode_cnt g2 b2 x _ hK2 hxs (by omega)).mono ?_)
        rintro e_ w31 ⟨rfl, hb⟩
        refine cR ?_
        have hpend := hb
        replace hbw := bthen hbw hb
        have hz_w31 := hb.size
        clear hb
        refine gY (g := 69) rfl rfl rfl ?_
        refine sm rfl rfl ?_
        refine gY (g := 69) rfl rfl rfl ?_
        replace hK := hK.bel hpend
        replace hK2 := hK2.bel hpend
        clear hpend
        refine sc _ Try.func32 rfl (by kernel_rfl) rfl rfl ((Encode_cnt g b x _ hK hxs (by omega)).mono ?_)
        rintro e_ w32 ⟨rfl, hb⟩
        refine cR ?_
        have hpend := hb
        replace hbw := bthen hbw hb
        have hz_w32 := hb.size
        clear hb
        refine gY (g := 69) rfl rfl rfl ?_
        refine st (X.neS rfl rfl) rfl ?_
        refine st (X.pickF rfl rfl) rfl ?_
        refine sbN rfl (by simp) rfl ?_
        refine gY (g := 76) rfl rfl rfl ?_
        refine sm rfl rfl ?_
        refine gY (g := 76) rfl rfl rfl ?_
        refine st (X.neq rfl rfl) rfl ?_
        refine gY (g := 76) rfl rfl rfl ?_
        refine sb rfl rfl (fun h79 => ?_) (fun h79 => ?_)
        · first | replace h79 := of_decide_eq_true h79 | replace h79 := of_decide_eq_false (notT h79) | replace h79 := notT h79 | skip
          refine gY (g := 79) rfl rfl rfl ?_
          refine sm rfl rfl ?_
          refine gY (g := 79) rfl rfl rfl ?_
          replace hK := hK.bel hpend
          replace hK2 := hK2.bel hpend
          clear hpend
          refine sc _ Try.func29 rfl (by kernel_rfl) rfl rfl ((Len_any g b x _ hK hxs).mono ?_)
          rintro e_ w33 ⟨rfl, hb⟩
          refine cR ?_
          have hpend := hb
          replace hbw := bthen hbw hb
          have hz_w33 := hb.size
          clear hb
          rw [hxn, show x = [] from hab (by simpa using h79)]
          refine gY (g := 79) rfl rfl rfl ?_
          refine st (X.neq rfl rfl) rfl ?_
          refine gY (g := 76) rfl rfl rfl ?_
          refine st (X.pickT rfl rfl) rfl ?_
          refine st (X.pickF rfl rfl) rfl ?_
          refine Wn ?_
          refine tN ?_
          refine W_no rfl (by simp) ?_
          refine W_skip ?_
          refine tN ?_
          refine W_rs ?_
          refine sm rfl rfl ?_
          refine sc _ Try.func40 rfl (by kernel_rfl) rfl rfl ((Unpack_any s _ (by omega)).mono ?_)
          rintro e_ w34 ⟨v8, rfl, hR8, hO8, hb⟩
          refine cR ?_
          replace hpend := bthen hpend hb
          replace hbw := bthen hbw hb
          have hz_w34 := hb.size
          clear hb
          replace hK := hK.bel hpend
          replace hK2 := hK2.bel hpend
          clear hpend
          refine sm rfl rfl ?_
          refine st (X.ext rfl rfl) rfl ?_
          refine st (X.ext rfl rfl) rfl ?_
          refine sa rfl rfl ?_
          refine sa rfl rfl ?_
          refine Wn ?_
          refine tN ?_
          refine W_seq ?_
          refine W_rs ?_
          refine sm rfl rfl ?_
          refine st (X.eql rfl rfl) rfl ?_
          refine Wn ?_
          refine tN ?_
          refine W_if rfl (fun h91 => ?_) (fun h91 => ?_)
          · first | replace h91 := of_decide_eq_true h91 | replace h91 := of_decide_eq_false (notT h91) | replace h91 := notT h91 | skip
            have hu := unpack_zero (s := s) (fun h => h h91)
            obtain ⟨m, hm⟩ : ∃ m, okOf [] (unpackM s) = m := ⟨_, rfl⟩
            rw [hm] at hu hR8
            have hm32 : ∀ c ∈ m, c.sum.length = 32 := fun c hc => ((unpack_ok hu).2.1 c hc).1
            refine W_rs ?_
            refine sm rfl rfl ?_
            refine sc _ Try.func19 rfl (by kernel_rfl) rfl rfl ((Pack_any v8 m _ ⟨hR8.reads, hm32⟩).mono ?_)
            rintro e_ w35 ⟨rfl, hb⟩
            refine cR ?_
            have hpend := hb
            replace hbw := bthen hbw hb
            have hz_w35 := hb.size
            clear hb
            rw [unpack_pack hu]
            refine sm rfl rfl ?_
            refine st (X.ext rfl rfl) rfl ?_
            refine st (X.ext rfl rfl) rfl ?_
            refine sa rfl rfl ?_
            refine sa rfl rfl ?_
            refine Wn ?_
            refine tN ?_
            refine W_rs ?_
            refine sm rfl rfl ?_
            refine st (X.neq rfl rfl) rfl ?_
            refine sbN rfl (by simp [errO]) rfl ?_
            refine gY (g := 99) rfl rfl rfl ?_
            refine sm rfl rfl ?_
            refine gY (g := 99) rfl rfl rfl ?_
            refine sm rfl rfl ?_
            refine gY (g := 99) rfl rfl rfl ?_
            refine st (X.neS rfl rfl) rfl ?_
            refine st (X.pickF rfl rfl) rfl ?_
            refine Wn ?_
            refine tN ?_
            refine W_no rfl (by simp [okOf]) ?_
            refine W_skip ?_
            refine tN ?_
            refine W_rs ?_
            refine sm rfl rfl ?_
            refine sc _ Try.func42 rfl (by kernel_rfl) rfl rfl ((Decode_no _ (by omega) hd).mono ?_)
            rintro e_ w36 ⟨rfl, hb⟩
            refine cR ?_
            replace hpend := bthen hpend hb
            replace hbw := bthen hbw hb
            have hz_w36 := hb.size
            clear hb
            refine sm rfl rfl ?_
            refine st (X.ext rfl rfl) rfl ?_
            refine st (X.ext rfl rfl) rfl ?_
            refine sa rfl rfl ?_
            refine sa rfl rfl ?_
            refine Wn ?_
            refine tN ?_
            refine W_rs ?_
            refine sm rfl rfl ?_
            refine st (X.neq rfl rfl) rfl ?_
            refine sbY rfl (by simp [hk]) rfl ?_
            refine gY (g := 111) rfl rfl rfl ?_
            refine sm rfl rfl ?_
            refine gY (g := 111) rfl rfl rfl ?_
            refine st (X.nilN rfl) rfl ?_
            refine st (X.pickT rfl rfl) rfl ?_
            refine sbY rfl (rfl) rfl ?_
            refine gN (g := 115) rfl rfl rfl rfl ?_
            refine gN (g := 115) rfl rfl rfl rfl ?_
            refine gN (g := 115) rfl rfl rfl rfl ?_
            refine gU (g := 118) rfl rfl rfl rfl ?_
            refine gU (g := 118) rfl rfl rfl rfl ?_
            refine gU (g := 118) rfl rfl rfl rfl ?_
            refine gU (g := 118) rfl rfl rfl rfl ?_
            refine gN (g := 115) rfl rfl rfl rfl ?_
            refine st (X.pickT rfl rfl) rfl ?_
            refine sm rfl rfl ?_
            refine gY (g := 125) rfl rfl rfl ?_
            refine sc _ Try.func18 rfl (by kernel_rfl) rfl rfl ((awake_any _).mono ?_)
            rintro e_ w37 ⟨rfl, hb⟩
            refine cR ?_
            replace hpend := bthen hpend hb
            replace hbw := bthen hbw hb
            have hz_w37 := hb.size
            clear hb
            refine st (X.pickT rfl rfl) rfl ?_
            refine sa rfl rfl ?_
            refine Wn ?_
            refine tN ?_
            replace hK := hK.bel hpend
            replace hK2 := hK2.bel hpend
            replace hR8 := hR8.bel hpend
            clear hpend
            refine W_ret ?_
            exact (rT rfl rfl ⟨rfl, hbw⟩).1
          · first | replace h91 := of_decide_eq_false h91 | replace h91 := of_decide_eq_true (notF h91) | replace h91 := notF h91 | skip
            refine W_skip ?_
            refine tN ?_
            refine W_rs ?_
            refine sm rfl rfl ?_
            refine sc _ Try.func42 rfl (by kernel_rfl) rfl rfl ((Decode_no _ (by omega) hd).mono ?_)
            rintro e_ w38 ⟨rfl, hb⟩
            refine cR ?_
            have hpend := hb
            replace hbw := bthen hbw hb
            have hz_w38 := hb.size
            clear hb
            refine sm rfl rfl ?_
            refine st (X.ext rfl rfl) rfl ?_
            refine st (X.ext rfl rfl) rfl ?_
            refine sa rfl rfl ?_
            refine sa rfl rfl ?_
            refine Wn ?_
            refine tN ?_
            refine W_rs ?_
            refine sm rfl rfl ?_
            refine st (X.neq rfl rfl) rfl ?_
            refine sbY rfl (by simp [hk]) rfl ?_
            refine gY (g := 111) rfl rfl rfl ?_
            refine sm rfl rfl ?_
            refine gY (g := 111) rfl rfl rfl ?_
            refine st (X.nilN rfl) rfl ?_
            refine st (X.pickT rfl rfl) rfl ?_
            refine sbY rfl (rfl) rfl ?_
            refine gN (g := 115) rfl rfl rfl rfl ?_
            refine gN (g := 115) rfl rfl rfl rfl ?_
            refine gN (g := 115) rfl rfl rfl rfl ?_
            refine gU (g := 118) rfl rfl rfl rfl ?_
            refine gU (g := 118) rfl rfl rfl rfl ?_
            refine gU (g := 118) rfl rfl rfl rfl ?_
            refine gU (g := 118) rfl rfl rfl rfl ?_
            refine gN (g := 115) rfl rfl rfl rfl ?_
            refine st (X.pickT rfl rfl) rfl ?_
            refine sm rfl rfl ?_
            refine gY (g := 125) rfl rfl rfl ?_
            refine sc _ Try.func18 rfl (by kernel_rfl) rfl rfl ((awake_any _).mono ?_)
            rintro e_ w39 ⟨rfl, hb⟩
            refine cR ?_
            replace hpend := bthen hpend hb
            replace hbw := bthen hbw hb
            have hz_w39 := hb.size
            clear hb
            refine st (X.pickT rfl rfl) rfl ?_
            refine sa rfl rfl ?_
            refine Wn ?_
            refine tN ?_
            replace hK := hK.bel hpend
            replace hK2 := hK2.bel hpend
            replace hR8 := hR8.bel hpend
            clear hpend
            refine W_ret ?_
            exact (rT rfl rfl ⟨rfl, hbw⟩).1
        · first | replace h79 := of_decide_eq_false h79 | replace h79 := of_decide_eq_true (notF h79) | replace h79 := notF h79 | skip
          refine gN (g := 79) rfl rfl rfl rfl ?_
          refine gN (g := 79) rfl rfl rfl rfl ?_
          refine gN (g := 79) rfl rfl rfl rfl ?_
          refine gY (g := 76) rfl rfl rfl ?_
          refine st (X.pickF rfl rfl) rfl ?_
          refine st (X.pickF rfl rfl) rfl ?_
          refine Wn ?_
          refine tN ?_
          refine W_no rfl (by simp) ?_
          refine W_skip ?_
          refine tN ?_
          refine W_rs ?_
          refine sm rfl rfl ?_
          refine sc _ Try.func40 rfl (by kernel_rfl) rfl rfl ((Unpack_any s _ (by omega)).mono ?_)
          rintro e_ w40 ⟨v8, rfl, hR8, hO8, hb⟩
          refine cR ?_
          replace hpend := bthen hpend hb
          replace hbw := bthen hbw hb
          have hz_w40 := hb.size
          clear hb
          replace hK := hK.bel hpend
          replace hK2 := hK2.bel hpend
          clear hpend
          refine sm rfl rfl ?_
          refine st (X.ext rfl rfl) rfl ?_
          refine st (X.ext rfl rfl) rfl ?_
          refine sa rfl rfl ?_
          refine sa rfl rfl ?_
          refine Wn ?_
          refine tN ?_
          refine W_seq ?_
          refine W_rs ?_
          refine sm rfl rfl ?_
          refine st (X.eql rfl rfl) rfl ?_
          refine Wn ?_
          refine tN ?_
          refine W_if rfl (fun h91 => ?_) (fun h91 => ?_)
          · first | replace h91 := of_decide_eq_true h91 | replace h91 := of_decide_eq_false (notT h91) | replace h91 := notT h91 | skip
            have hu := unpack_zero (s := s) (fun h => h h91)
            obtain ⟨m, hm⟩ : ∃ m, okOf [] (unpackM s) = m := ⟨_, rfl⟩
            rw [hm] at hu hR8
            have hm32 : ∀ c ∈ m, c.sum.length = 32 := fun c hc => ((unpack_ok hu).2.1 c hc).1
            refine W_rs ?_
            refine sm rfl rfl ?_
            refine sc _ Try.func19 rfl (by kernel_rfl) rfl rfl ((Pack_any v8 m _ ⟨hR8.reads, hm32⟩).mono ?_)
            rintro e_ w41 ⟨rfl, hb⟩
            refine cR ?_
            have hpend := hb
            replace hbw := bthen hbw hb
            have hz_w41 := hb.size
            clear hb
            rw [unpack_pack hu]
            refine sm rfl rfl ?_
            refine st (X.ext rfl rfl) rfl ?_
            refine st (X.ext rfl rfl) rfl ?_
            refine sa rfl rfl ?_
            refine sa rfl rfl ?_
            refine Wn ?_
            refine tN ?_
            refine W_rs ?_
            refine sm rfl rfl ?_
            refine st (X.neq rfl rfl) rfl ?_
            refine sbN rfl (by simp [errO]) rfl ?_
            refine gY (g := 99) rfl rfl rfl ?_
            refine sm rfl rfl ?_
            refine gY (g := 99) rfl rfl rfl ?_
            refine sm rfl rfl ?_
            refine gY (g := 99) rfl rfl rfl ?_
            refine st (X.neS rfl rfl) rfl ?_
            refine st (X.pickF rfl rfl) rfl ?_
            refine Wn ?_
            refine tN ?_
            refine W_no rfl (by simp [okOf]) ?_
            refine W_skip ?_
            refine tN ?_
            refine W_rs ?_
            refine sm rfl rfl ?_
            refine sc _ Try.func42 rfl (by kernel_rfl) rfl rfl ((Decode_no _ (by omega) hd).mono ?_)
            rintro e_ w42 ⟨rfl, hb⟩
            refine cR ?_
            replace hpend := bthen hpend hb
            replace hbw := bthen hbw hb
            have hz_w42 := hb.size
            clear hb
            refine sm rfl rfl ?_
            refine st (X.ext rfl rfl) rfl ?_
            refine st (X.ext rfl rfl) rfl ?_
            refine sa rfl rfl ?_
            refine sa rfl rfl ?_
            refine Wn ?_
            refine tN ?_
            refine W_rs ?_
            refine sm rfl rfl ?_
            refine st (X.neq rfl rfl) rfl ?_
            refine sbY rfl (by simp [hk]) rfl ?_
            refine gY (g := 111) rfl rfl rfl ?_
            refine sm rfl rfl ?_
            refine gY (g := 111) rfl rfl rfl ?_
            refine st (X.nilN rfl) rfl ?_
            refine st (X.pickT rfl rfl) rfl ?_
            refine sbY rfl (rfl) rfl ?_
            refine gN (g := 115) rfl rfl rfl rfl ?_
            refine gN (g := 115) rfl rfl rfl rfl ?_
            refine gN (g := 115) rfl rfl rfl rfl ?_
            refine gU (g := 118) rfl rfl rfl rfl ?_
            refine gU (g := 118) rfl rfl rfl rfl ?_
            refine gU (g := 118) rfl rfl rfl rfl ?_
            refine gU (g := 118) rfl rfl rfl rfl ?_
            refine gN (g := 115) rfl rfl rfl rfl ?_
            refine st (X.pickT rfl rfl) rfl ?_
            refine sm rfl rfl ?_
            refine gY (g := 125) rfl rfl rfl ?_
            refine sc _ Try.func18 rfl (by kernel_rfl) rfl rfl ((awake_any _).mono ?_)
            rintro e_ w43 ⟨rfl, hb⟩
            refine cR ?_
            replace hpend := bthen hpend hb
            replace hbw := bthen hbw hb
            have hz_w43 := hb.size
            clear hb
            refine st (X.pickT rfl rfl) rfl ?_
            refine sa rfl rfl ?_
            refine Wn ?_
            refine tN ?_
            replace hK := hK.bel hpend
            replace hK2 := hK2.bel hpend
            replace hR8 := hR8.bel hpend
            clear hpend
            refine W_ret ?_
            exact (rT rfl rfl ⟨rfl, hbw⟩).1
          · first | replace h91 := of_decide_eq_false h91 | replace h91 := of_decide_eq_true (notF h91) | replace h91 := notF h91 | skip
            refine W_skip ?_
            refine tN ?_
            refine W_rs ?_
            refine sm rfl rfl ?_
            refine sc _ Try.func42 rfl (by kernel_rfl) rfl rfl ((Decode_no _ (by omega) hd).mono ?_)
            rintro e_ w44 ⟨rfl, hb⟩
            refine cR ?_
            have hpend := hb
            replace hbw := bthen hbw hb
            have hz_w44 := hb.size
            clear hb
            refine sm rfl rfl ?_
            refine st (X.ext rfl rfl) rfl ?_
            refine st (X.ext rfl rfl) rfl ?_
            refine sa rfl rfl ?_
            refine sa rfl rfl ?_
            refine Wn ?_
            refine tN ?_
            refine W_rs ?_
            refine sm rfl rfl ?_
            refine st (X.neq rfl rfl) rfl ?_
            refine sbY rfl (by simp [hk]) rfl ?_
            refine gY (g := 111) rfl rfl rfl ?_
            refine sm rfl rfl ?_
            refine gY (g := 111) rfl rfl rfl ?_
            refine st (X.nilN rfl) rfl ?_
            refine st (X.pickT rfl rfl) rfl ?_
            refine sbY rfl (rfl) rfl ?_
            refine gN (g := 115) rfl rfl rfl rfl ?_
            refine gN (g := 115) rfl rfl rfl rfl ?_
            refine gN (g := 115) rfl rfl rfl rfl ?_
            refine gU (g := 118) rfl rfl rfl rfl ?_
            refine gU (g := 118) rfl rfl rfl rfl ?_
            refine gU (g := 118) rfl rfl rfl rfl ?_
            refine gU (g := 118) rfl rfl rfl rfl ?_
            refine gN (g := 115) rfl rfl rfl rfl ?_
            refine st (X.pickT rfl rfl) rfl ?_
            refine sm rfl rfl ?_
            refine gY (g := 125) rfl rfl rfl ?_
            refine sc _ Try.func18 rfl (by kernel_rfl) rfl rfl ((awake_any _).mono ?_)
            rintro e_ w45 ⟨rfl, hb⟩
            refine cR ?_
            replace hpend := bthen hpend hb
            replace hbw := bthen hbw hb
            have hz_w45 := hb.size
            clear hb
            refine st (X.pickT rfl rfl) rfl ?_
            refine sa rfl rfl ?_
            refine Wn ?_
            refine tN ?_
            replace hK := hK.bel hpend
            replace hK2 := hK2.bel hpend
            replace hR8 := hR8.bel hpend
            clear hpend
            refine W_ret ?_
            exact (rT rfl rfl ⟨rfl, hbw⟩).1
set_option maxRecDepth 10000 in
theorem RefsBk_yes {s : List UInt8} {d : List Chk} (w : World) (v : Value) (l : List Chk) (h : ChksAt w v l) (hs : s.length ≤ 9223372036854775807) (hd : decodeC s = .ok d) : Calls Try.prog 9 #[v, str s] w fun e w' => e = .returned (.bool true) ∧ Below w.heap.size w w' := by
  have hcn := decode_cnts hd
  obtain ⟨hdu, hdn⟩ := decode_ok hd
  obtain ⟨_, _, hdl, hdp⟩ := unpack_ok hdu
  refine W_enter (args := [v, str s]) 128 Try.func9 rfl rfl rfl ?_
  refine W_sub [(0, v), (1, str s)] ?_ ⟨rfl, rfl, trivial⟩
  have hbw := Below.refl w.heap.size w
  refine W_rs ?_
  refine sa rfl rfl ?_
  refine Wn ?_
  refine tN ?_
  refine W_seq ?_
  refine W_rs ?_
  refine sm rfl rfl ?_
  refine sc _ Try.func17 rfl (by kernel_rfl) rfl rfl ((small_any v l _ (h.bel hbw)).mono ?_)
  rintro e_ w1 ⟨rfl, hb⟩
  refine cR ?_
  replace hbw := bthen hbw hb
  have hz_w1 := hb.size
  clear hb
  refine st (X.not rfl) rfl ?_
  refine sb rfl rfl (fun h23 => ?_) (fun h23 => ?_)
  · first | replace h23 := of_decide_eq_true h23 | replace h23 := of_decide_eq_false (notT h23) | replace h23 := notT h23 | skip
    refine gN (g := 23) rfl rfl rfl rfl ?_
    refine gN (g := 23) rfl rfl rfl rfl ?_
    refine gN (g := 23) rfl rfl rfl rfl ?_
    refine st (X.pickT rfl rfl) rfl ?_
    refine Wn ?_
    refine tN ?_
    refine W_yes rfl (rfl) ?_
    refine W_rs ?_
    refine sc _ Try.func18 rfl (by kernel_rfl) rfl rfl ((awake_any _).mono ?_)
    rintro e_ w2 ⟨rfl, hb⟩
    refine cR ?_
    replace hbw := bthen hbw hb
    have hz_w2 := hb.size
    clear hb
    refine sa rfl rfl ?_
    refine Wn ?_
    refine tN ?_
    refine W_ret (tR ?_)
    exact (rT rfl rfl ⟨rfl, hbw⟩).1
  · first | replace h23 := of_decide_eq_false h23 | replace h23 := of_decide_eq_true (notF h23) | replace h23 := notF h23 | skip
    refine gY (g := 23) rfl rfl rfl ?_
    refine sm rfl rfl ?_
    refine gY (g := 23) rfl rfl rfl ?_
    refine st (X.lenS rfl rfl Try.underlying9) rfl ?_
    refine gY (g := 23) rfl rfl rfl ?_
    refine st (X.gtr rfl rfl) rfl ?_
    refine st (X.pickF rfl rfl) rfl ?_
    refine Wn ?_
    refine tN ?_
    refine W_if rfl (fun h27 => ?_) (fun h27 => ?_)
    · first | replace h27 := of_decide_eq_true h27 | replace h27 := of_decide_eq_false (notT h27) | replace h27 := notT h27 | skip
      refine W_rs ?_
      refine sc _ Try.func18 rfl (by kernel_rfl) rfl rfl ((awake_any _).mono ?_)
      rintro e_ w3 ⟨rfl, hb⟩
      refine cR ?_
      replace hbw := bthen hbw hb
      have hz_w3 := hb.size
      clear hb
      refine sa rfl rfl ?_
      refine Wn ?_
      refine tN ?_
      refine W_ret (tR ?_)
      exact (rT rfl rfl ⟨rfl, hbw⟩).1
    · first | replace h27 := of_decide_eq_false h27 | replace h27 := of_decide_eq_true (notF h27) | replace h27 := notF h27 | skip
      refine W_skip ?_
      refine tN ?_
      refine W_rs ?_
      obtain ⟨htm, hll⟩ := smallM_ok (l := l) (by simpa using h23)
      have h32 := h.2
      refine sm rfl rfl ?_
      refine sc _ Try.func19 rfl (by kernel_rfl) rfl rfl ((Pack_any v l _ (h.bel hbw)).mono ?_)
      rintro e_ w4 ⟨rfl, hb⟩
      refine cR ?_
      replace hbw := bthen hbw hb
      have hz_w4 := hb.size
      clear hb
      refine sm rfl rfl ?_
      refine st (X.ext rfl rfl) rfl ?_
      refine st (X.ext rfl rfl) rfl ?_
      refine sa rfl rfl ?_
      refine sa rfl rfl ?_
      refine Wn ?_
      refine tN ?_
      refine W_seq ?_
      refine W_rs ?_
      refine sm rfl rfl ?_
      refine st (X.eql rfl rfl) rfl ?_
      refine Wn ?_
      refine tN ?_
      refine W_if rfl (fun h35 => ?_) (fun h35 => ?_)
      · first | replace h35 := of_decide_eq_true h35 | replace h35 := of_decide_eq_false (notT h35) | replace h35 := notT h35 | skip
        have hpz := pack_zero h35
        rw [hpz.1]
        refine W_rs ?_
        refine sm rfl rfl ?_
        refine sc _ Try.func40 rfl (by kernel_rfl) rfl rfl ((Unpack_any (packedM l) _ (packed_small h32 (by omega))).mono ?_)
        rintro e_ w5 ⟨v7, rfl, hR7, hO7, hb⟩
        refine cR ?_
        replace hbw := bthen hbw hb
        have hz_w5 := hb.size
        clear hb
        rw [pack_unpack h35 h32] at hR7
        rw [pack_unpack h35 h32]
        refine sm rfl rfl ?_
        refine st (X.ext rfl rfl) rfl ?_
        refine st (X.ext rfl rfl) rfl ?_
        refine sa rfl rfl ?_
        refine sa rfl rfl ?_
        refine Wn ?_
        refine tN ?_
        refine W_rs ?_
        refine sm rfl rfl ?_
        refine st (X.neq rfl rfl) rfl ?_
        refine sbN rfl (by simp [errO]) rfl ?_
        refine gY (g := 43) rfl rfl rfl ?_
        refine sm rfl rfl ?_
        refine gY (g := 43) rfl rfl rfl ?_
        refine sm rfl rfl ?_
        refine gY (g := 43) rfl rfl rfl ?_
        refine sc _ Try.func21 rfl (by kernel_rfl) rfl rfl ((Plain_any v l _ (h.bel hbw) (by omega)).mono ?_)
        rintro e_ w6 ⟨vp, rfl, hP, hOp, hb⟩
        refine cR ?_
        have hpend := hb
        replace hbw := bthen hbw hb
        have hz_w6 := hb.size
        clear hb
        refine gY (g := 43) rfl rfl rfl ?_
        replace hR7 := hR7.bel hpend
        clear hpend
        refine sc _ Try.func22 rfl (by kernel_rfl) rfl rfl ((Same_any v7 vp l l _ ⟨hR7.reads, h32⟩ (by omega) hP.reads).mono ?_)
        rintro e_ w7 ⟨rfl, hb⟩
        refine cR ?_
        have hpend := hb
        replace hbw := bthen hbw hb
        have hz_w7 := hb.size
        clear hb
        refine gY (g := 43) rfl rfl rfl ?_
        refine st (X.not rfl) rfl ?_
        refine st (X.pickF rfl rfl) rfl ?_
        refine Wn ?_
        refine tN ?_
        refine W_no rfl (by simp) ?_
        refine W_skip ?_
        refine tN ?_
        refine W_rs ?_
        refine sc _ Try.func25 rfl (by kernel_rfl) rfl rfl ((New_any _).mono ?_)
        rintro e_ w8 ⟨g, b, rfl, hK, hgl, hbl, hgb, hb⟩
        refine cR ?_
        replace hbw := bthen hbw hb
        have hz_w8 := hb.size
        clear hb
        have hgw : w.heap.size ≤ g := by have := hbw.size; omega
        have hbg : w.heap.size ≤ b := by have := hbw.size; omega
        clear hpend
        refine sa rfl rfl ?_
        refine Wn ?_
        refine tN ?_
        refine W_rs ?_
        refine sm rfl rfl ?_
        refine sm rfl rfl ?_
        refine sc _ Try.func26 rfl (by kernel_rfl) rfl rfl ((Add_any g b [] v l _ hK cnts_nil (h.bel hbw)).mono ?_)
        rintro e_ w9 hadd
        have hac := addM_cnts cnts_nil (l := l) h32
        have hal := add_len l
        have hab := add_bad (l := l)
        obtain ⟨⟨x, gn, er⟩, hr⟩ : ∃ r, addM [] l = r := ⟨_, rfl⟩
        rw [hr] at hadd hac hal hab
        obtain ⟨v2, rfl, hG2, hO2, hC2, hch⟩ := hadd
        refine cR ?_
        replace hK := hC2
        replace hbw := bset hbw hch (by omega)
        have hz92 := hch.size
        clear hch hC2 hG2 hr
        have hxl : x.length ≤ 60 := Nat.le_trans hal hll
        have hxs : ∀ c ∈ x, c.sum.length = 32 := hac.sum
        have hxn : netM x = x := hac.net
        refine sm rfl rfl ?_
        refine st (X.ext rfl rfl) rfl ?_
        refine st (X.ext rfl rfl) rfl ?_
        refine sa rfl rfl ?_
        refine sa rfl rfl ?_
        refine Wn ?_
        refine tN ?_
        refine W_rs ?_
        refine sm rfl rfl ?_
        refine sc _ Try.func32 rfl (by kernel_rfl) rfl rfl ((Encode_cnt g b x _ hK hxs (by omega)).mono ?_)
        rintro e_ w10 ⟨rfl, hb⟩
        refine cR ?_
        have hpend := hb
        replace hbw := bthen hbw hb
        have hz_w10 := hb.size
        clear hb
        rw [hxn]
        refine sc _ Try.func42 rfl (by kernel_rfl) rfl rfl ((Decode_yes _ (packed_small hxs (by omega)) (cnts_dec hac (by omega))).mono ?_)
        rintro e_ w11 ⟨g2, b2, rfl, hK2, hgl2, hbl2, hgb2, hb⟩
        refine cR ?_
        replace hpend := bthen hpend hb
        replace hbw := bthen hbw hb
        have hz_w11 := hb.size
        clear hb
        replace hK := hK.bel hpend
        clear hpend
        refine sm rfl rfl ?_
        refine st (X.ext rfl rfl) rfl ?_
        refine st (X.ext rfl rfl) rfl ?_
        refine sa rfl rfl ?_
        refine sa rfl rfl ?_
        refine Wn ?_
        refine tN ?_
        refine W_seq ?_
        refine W_rs ?_
        refine sm rfl rfl ?_
        refine st (X.neq rfl rfl) rfl ?_
        refine sbN rfl (by simp) rfl ?_
        refine gY (g := 65) rfl rfl rfl ?_
        refine sm rfl rfl ?_
        refine gY (g := 65) rfl rfl rfl ?_
        refine st (X.nilP rfl) rfl ?_
        refine st (X.pickF rfl rfl) rfl ?_
        refine sbN rfl (rfl) rfl ?_
        refine gY (g := 69) rfl rfl rfl ?_
        refine sm rfl rfl ?_
        refine gY (g := 69) rfl rfl rfl ?_
        refine sc _ Try.func32 rfl (by kernel_rfl) rfl rfl ((Encode_cnt g2 b2 x _ hK2 hxs (by omega)).mono ?_)
        rintro e_ w12 ⟨rfl, hb⟩
        refine cR ?_
        have hpend := hb
        replace hbw := bthen hbw hb
        have hz_w12 := hb.size
        clear hb
        refine gY (g := 69) rfl rfl rfl ?_
        refine sm rfl rfl ?_
        refine gY (g := 69) rfl rfl rfl ?_
        replace hK := hK.bel hpend
        replace hK2 := hK2.bel hpend
        clear hpend
        refine sc _ Try.func32 rfl (by kernel_rfl) rfl rfl ((Encode_cnt g b x _ hK hxs (by omega)).mono ?_)
        rintro e_ w13 ⟨rfl, hb⟩
        refine cR ?_
        have hpend := hb
        replace hbw := bthen hbw hb
        have hz_w13 := hb.size
        clear hb
        refine gY (g := 69) rfl rfl rfl ?_
        refine st (X.neS rfl rfl) rfl ?_
        refine st (X.pickF rfl rfl) rfl ?_
        refine sbN rfl (by simp) rfl ?_
        refine gY (g := 76) rfl rfl rfl ?_
        refine sm rfl rfl ?_
        refine gY (g := 76) rfl rfl rfl ?_
        refine st (X.neq rfl rfl) rfl ?_
        refine gY (g := 76) rfl rfl rfl ?_
        refine sb rfl rfl (fun h79 => ?_) (fun h79 => ?_)
        · first | replace h79 := of_decide_eq_true h79 | replace h79 := of_decide_eq_false (notT h79) | replace h79 := notT h79 | skip
          refine gY (g := 79) rfl rfl rfl ?_
          refine sm rfl rfl ?_
          refine gY (g := 79) rfl rfl rfl ?_
          replace hK := hK.bel hpend
          replace hK2 := hK2.bel hpend
          clear hpend
          refine sc _ Try.func29 rfl (by kernel_rfl) rfl rfl ((Len_any g b x _ hK hxs).mono ?_)
          rintro e_ w14 ⟨rfl, hb⟩
          refine cR ?_
          have hpend := hb
          replace hbw := bthen hbw hb
          have hz_w14 := hb.size
          clear hb
          rw [hxn, show x = [] from hab (by simpa using h79)]
          refine gY (g := 79) rfl rfl rfl ?_
          refine st (X.neq rfl rfl) rfl ?_
          refine gY (g := 76) rfl rfl rfl ?_
          refine st (X.pickT rfl rfl) rfl ?_
          refine st (X.pickF rfl rfl) rfl ?_
          refine Wn ?_
          refine tN ?_
          refine W_no rfl (by simp) ?_
          refine W_skip ?_
          refine tN ?_
          refine W_rs ?_
          refine sm rfl rfl ?_
          refine sc _ Try.func40 rfl (by kernel_rfl) rfl rfl ((Unpack_any s _ (by omega)).mono ?_)
          rintro e_ w15 ⟨v8, rfl, hR8, hO8, hb⟩
          refine cR ?_
          replace hpend := bthen hpend hb
          replace hbw := bthen hbw hb
          have hz_w15 := hb.size
          clear hb
          replace hK := hK.bel hpend
          replace hK2 := hK2.bel hpend
          clear hpend
          refine sm rfl rfl ?_
          refine st (X.ext rfl rfl) rfl ?_
          refine st (X.ext rfl rfl) rfl ?_
          refine sa rfl rfl ?_
          refine sa rfl rfl ?_
          refine Wn ?_
          refine tN ?_
          refine W_seq ?_
          refine W_rs ?_
          refine sm rfl rfl ?_
          refine st (X.eql rfl rfl) rfl ?_
          refine Wn ?_
          refine tN ?_
          refine W_if rfl (fun h91 => ?_) (fun h91 => ?_)
          · first | replace h91 := of_decide_eq_true h91 | replace h91 := of_decide_eq_false (notT h91) | replace h91 := notT h91 | skip
            have hu := unpack_zero (s := s) (fun h => h h91)
            obtain ⟨m, hm⟩ : ∃ m, okOf [] (unpackM s) = m := ⟨_, rfl⟩
            rw [hm] at hu hR8
            have hm32 : ∀ c ∈ m, c.sum.length = 32 := fun c hc => ((unpack_ok hu).2.1 c hc).1
            refine W_rs ?_
            refine sm rfl rfl ?_
            refine sc _ Try.func19 rfl (by kernel_rfl) rfl rfl ((Pack_any v8 m _ ⟨hR8.reads, hm32⟩).mono ?_)
            rintro e_ w16 ⟨rfl, hb⟩
            refine cR ?_
            have hpend := hb
            replace hbw := bthen hbw hb
            have hz_w16 := hb.size
            clear hb
            rw [unpack_pack hu]
            refine sm rfl rfl ?_
            refine st (X.ext rfl rfl) rfl ?_
            refine st (X.ext rfl rfl) rfl ?_
            refine sa rfl rfl ?_
            refine sa rfl rfl ?_
            refine Wn ?_
            refine tN ?_
            refine W_rs ?_
            refine sm rfl rfl ?_
            refine st (X.neq rfl rfl) rfl ?_
            refine sbN rfl (by simp [errO]) rfl ?_
            refine gY (g := 99) rfl rfl rfl ?_
            refine sm rfl rfl ?_
            refine gY (g := 99) rfl rfl rfl ?_
            refine sm rfl rfl ?_
            refine gY (g := 99) rfl rfl rfl ?_
            refine st (X.neS rfl rfl) rfl ?_
            refine st (X.pickF rfl rfl) rfl ?_
            refine Wn ?_
            refine tN ?_
            refine W_no rfl (by simp [okOf]) ?_
            refine W_skip ?_
            refine tN ?_
            refine W_rs ?_
            refine sm rfl rfl ?_
            refine sc _ Try.func42 rfl (by kernel_rfl) rfl rfl ((Decode_yes _ (by omega) hd).mono ?_)
            rintro e_ w17 ⟨g3, b3, rfl, hK3, hgl3, hbl3, hgb3, hb⟩
            refine cR ?_
            replace hpend := bthen hpend hb
            replace hbw := bthen hbw hb
            have hz_w17 := hb.size
            clear hb
            replace hK := hK.bel hpend
            replace hK2 := hK2.bel hpend
            replace hR8 := hR8.bel hpend
            clear hpend
            refine sm rfl rfl ?_
            refine st (X.ext rfl rfl) rfl ?_
            refine st (X.ext rfl rfl) rfl ?_
            refine sa rfl rfl ?_
            refine sa rfl rfl ?_
            refine Wn ?_
            refine tN ?_
            refine W_rs ?_
            refine sm rfl rfl ?_
            refine st (X.neq rfl rfl) rfl ?_
            refine sbN rfl (by simp) rfl ?_
            refine gN (g := 111) rfl rfl rfl rfl ?_
            refine gN (g := 111) rfl rfl rfl rfl ?_
            refine st (X.pickF rfl rfl) rfl ?_
            refine sm rfl rfl ?_
            refine gY (g := 115) rfl rfl rfl ?_
            refine sm rfl rfl ?_
            refine gY (g := 115) rfl rfl rfl ?_
            refine st (X.eql rfl rfl) rfl ?_
            refine gY (g := 115) rfl rfl rfl ?_
            refine sbY rfl (by simp) rfl ?_
            refine gY (g := 118) rfl rfl rfl ?_
            refine sm rfl rfl ?_
            refine gY (g := 118) rfl rfl rfl ?_
            refine sc _ Try.func32 rfl (by kernel_rfl) rfl rfl ((Encode_cnt g3 b3 d _ hK3 hcn.sum (by omega)).mono ?_)
            rintro e_ w18 ⟨rfl, hb⟩
            refine cR ?_
            have hpend := hb
            replace hbw := bthen hbw hb
            have hz_w18 := hb.size
            clear hb
            rw [hcn.net, hdp]
            refine gY (g := 118) rfl rfl rfl ?_
            refine sm rfl rfl ?_
            refine gY (g := 118) rfl rfl rfl ?_
            refine st (X.eqS rfl rfl) rfl ?_
            refine gY (g := 115) rfl rfl rfl ?_
            refine st (X.pickT rfl rfl) rfl ?_
            refine st (X.pickF rfl rfl) rfl ?_
            refine sbY rfl (by simp) rfl ?_
            refine gY (g := 125) rfl rfl rfl ?_
            refine sc _ Try.func18 rfl (by kernel_rfl) rfl rfl ((awake_any _).mono ?_)
            rintro e_ w19 ⟨rfl, hb⟩
            refine cR ?_
            replace hpend := bthen hpend hb
            replace hbw := bthen hbw hb
            have hz_w19 := hb.size
            clear hb
            refine st (X.pickT rfl rfl) rfl ?_
            refine sa rfl rfl ?_
            refine Wn ?_
            refine tN ?_
            replace hK := hK.bel hpend
            replace hK2 := hK2.bel hpend
            replace hR8 := hR8.bel hpend
            replace hK3 := hK3.bel hpend
            clear hpend
            refine W_ret ?_
            exact (rT rfl rfl ⟨rfl, hbw⟩).1
          · first | replace h91 := of_decide_eq_false h91 | replace h91 := of_decide_eq_true (notF h91) | replace h91 := notF h91 | skip
            refine W_skip ?_
            refine tN ?_
            refine W_rs ?_
            refine sm rfl rfl ?_
            refine sc _ Try.func42 rfl (by kernel_rfl) rfl rfl ((Decode_yes _ (by omega) hd).mono ?_)
            rintro e_ w20 ⟨g3, b3, rfl, hK3, hgl3, hbl3, hgb3, hb⟩
            refine cR ?_
            have hpend := hb
            replace hbw := bthen hbw hb
            have hz_w20 := hb.size
            clear hb
            replace hK := hK.bel hpend
            replace hK2 := hK2.bel hpend
            replace hR8 := hR8.bel hpend
            clear hpend
            refine sm rfl rfl ?_
            refine st (X.ext rfl rfl) rfl ?_
            refine st (X.ext rfl rfl) rfl ?_
            refine sa rfl rfl ?_
            refine sa rfl rfl ?_
            refine Wn ?_
            refine tN ?_
            refine W_rs ?_
            refine sm rfl rfl ?_
            refine st (X.neq rfl rfl) rfl ?_
            refine sbN rfl (by simp) rfl ?_
            refine gN (g := 111) rfl rfl rfl rfl ?_
            refine gN (g := 111) rfl rfl rfl rfl ?_
            refine st (X.pickF rfl rfl) rfl ?_
            refine sm rfl rfl ?_
            refine gY (g := 115) rfl rfl rfl ?_
            refine sm rfl rfl ?_
            refine gY (g := 115) rfl rfl rfl ?_
            refine st (X.eql rfl rfl) rfl ?_
            refine gY (g := 115) rfl rfl rfl ?_
            refine sbY rfl (by simp) rfl ?_
            refine gY (g := 118) rfl rfl rfl ?_
            refine sm rfl rfl ?_
            refine gY (g := 118) rfl rfl rfl ?_
            refine sc _ Try.func32 rfl (by kernel_rfl) rfl rfl ((Encode_cnt g3 b3 d _ hK3 hcn.sum (by omega)).mono ?_)
            rintro e_ w21 ⟨rfl, hb⟩
            refine cR ?_
            have hpend := hb
            replace hbw := bthen hbw hb
            have hz_w21 := hb.size
            clear hb
            rw [hcn.net, hdp]
            refine gY (g := 118) rfl rfl rfl ?_
            refine sm rfl rfl ?_
            refine gY (g := 118) rfl rfl rfl ?_
            refine st (X.eqS rfl rfl) rfl ?_
            refine gY (g := 115) rfl rfl rfl ?_
            refine st (X.pickT rfl rfl) rfl ?_
            refine st (X.pickF rfl rfl) rfl ?_
            refine sbY rfl (by simp) rfl ?_
            refine gY (g := 125) rfl rfl rfl ?_
            refine sc _ Try.func18 rfl (by kernel_rfl) rfl rfl ((awake_any _).mono ?_)
            rintro e_ w22 ⟨rfl, hb⟩
            refine cR ?_
            replace hpend := bthen hpend hb
            replace hbw := bthen hbw hb
            have hz_w22 := hb.size
            clear hb
            refine st (X.pickT rfl rfl) rfl ?_
            refine sa rfl rfl ?_
            refine Wn ?_
            refine tN ?_
            replace hK := hK.bel hpend
            replace hK2 := hK2.bel hpend
            replace hR8 := hR8.bel hpend
            replace hK3 := hK3.bel hpend
            clear hpend
            refine W_ret ?_
            exact (rT rfl rfl ⟨rfl, hbw⟩).1
        · first | replace h79 := of_decide_eq_false h79 | replace h79 := of_decide_eq_true (notF h79) | replace h79 := notF h79 | skip
          refine gN (g := 79) rfl rfl rfl rfl ?_
          refine gN (g := 79) rfl rfl rfl rfl ?_
          refine gN (g := 79) rfl rfl rfl rfl ?_
          refine gY (g := 76) rfl rfl rfl ?_
          refine st (X.pickF rfl rfl) rfl ?_
          refine st (X.pickF rfl rfl) rfl ?_
          refine Wn ?_
          refine tN ?_
          refine W_no rfl (by simp) ?_
          refine W_skip ?_
          refine tN ?_
          refine W_rs ?_
          refine sm rfl rfl ?_
          refine sc _ Try.func40 rfl (by kernel_rfl) rfl rfl ((Unpack_any s _ (by omega)).mono ?_)
          rintro e_ w23 ⟨v8, rfl, hR8, hO8, hb⟩
          refine cR ?_
          replace hpend := bthen hpend hb
          replace hbw := bthen hbw hb
          have hz_w23 := hb.size
          clear hb
          replace hK := hK.bel hpend
          replace hK2 := hK2.bel hpend
          clear hpend
          refine sm rfl rfl ?_
          refine st (X.ext rfl rfl) rfl ?_
          refine st (X.ext rfl rfl) rfl ?_
          refine sa rfl rfl ?_
          refine sa rfl rfl ?_
          refine Wn ?_
          refine tN ?_
          refine W_seq ?_
          refine W_rs ?_
          refine sm rfl rfl ?_
          refine st (X.eql rfl rfl) rfl ?_
          refine Wn ?_
          refine tN ?_
          refine W_if rfl (fun h91 => ?_) (fun h91 => ?_)
          · first | replace h91 := of_decide_eq_true h91 | replace h91 := of_decide_eq_false (notT h91) | replace h91 := notT h91 | skip
            have hu := unpack_zero (s := s) (fun h => h h91)
            obtain ⟨m, hm⟩ : ∃ m, okOf [] (unpackM s) = m := ⟨_, rfl⟩
            rw [hm] at hu hR8
            have hm32 : ∀ c ∈ m, c.sum.length = 32 := fun c hc => ((unpack_ok hu).2.1 c hc).1
            refine W_rs ?_
            refine sm rfl rfl ?_
            refine sc _ Try.func19 rfl (by kernel_rfl) rfl rfl ((Pack_any v8 m _ ⟨hR8.reads, hm32⟩).mono ?_)
            rintro e_ w24 ⟨rfl, hb⟩
            refine cR ?_
            have hpend := hb
            replace hbw := bthen hbw hb
            have hz_w24 := hb.size
            clear hb
            rw [unpack_pack hu]
            refine sm rfl rfl ?_
            refine st (X.ext rfl rfl) rfl ?_
            refine st (X.ext rfl rfl) rfl ?_
            refine sa rfl rfl ?_
            refine sa rfl rfl ?_
            refine Wn ?_
            refine tN ?_
            refine W_rs ?_
            refine sm rfl rfl ?_
            refine st (X.neq rfl rfl) rfl ?_
            refine sbN rfl (by simp [errO]) rfl ?_
            refine gY (g := 99) rfl rfl rfl ?_
            refine sm rfl rfl ?_
            refine gY (g := 99) rfl rfl rfl ?_
            refine sm rfl rfl ?_
            refine gY (g := 99) rfl rfl rfl ?_
            refine st (X.neS rfl rfl) rfl ?_
            refine st (X.pickF rfl rfl) rfl ?_
            refine Wn ?_
            refine tN ?_
            refine W_no rfl (by simp [okOf]) ?_
            refine W_skip ?_
            refine tN ?_
            refine W_rs ?_
            refine sm rfl rfl ?_
            refine sc _ Try.func42 rfl (by kernel_rfl) rfl rfl ((Decode_yes _ (by omega) hd).mono ?_)
            rintro e_ w25 ⟨g3, b3, rfl, hK3, hgl3, hbl3, hgb3, hb⟩
            refine cR ?_
            replace hpend := bthen hpend hb
            replace hbw := bthen hbw hb
            have hz_w25 := hb.size
            clear hb
            replace hK := hK.bel hpend
            replace hK2 := hK2.bel hpend
            replace hR8 := hR8.bel hpend
            clear hpend
            refine sm rfl rfl ?_
            refine st (X.ext rfl rfl) rfl ?_
            refine st (X.ext rfl rfl) rfl ?_
            refine sa rfl rfl ?_
            refine sa rfl rfl ?_
            refine Wn ?_
            refine tN ?_
            refine W_rs ?_
            refine sm rfl rfl ?_
            refine st (X.neq rfl rfl) rfl ?_
            refine sbN rfl (by simp) rfl ?_
            refine gN (g := 111) rfl rfl rfl rfl ?_
            refine gN (g := 111) rfl rfl rfl rfl ?_
            refine st (X.pickF rfl rfl) rfl ?_
            refine sm rfl rfl ?_
            refine gY (g := 115) rfl rfl rfl ?_
            refine sm rfl rfl ?_
            refine gY (g := 115) rfl rfl rfl ?_
            refine st (X.eql rfl rfl) rfl ?_
            refine gY (g := 115) rfl rfl rfl ?_
            refine sbY rfl (by simp) rfl ?_
            refine gY (g := 118) rfl rfl rfl ?_
            refine sm rfl rfl ?_
            refine gY (g := 118) rfl rfl rfl ?_
            refine sc _ Try.func32 rfl (by kernel_rfl) rfl rfl ((Encode_cnt g3 b3 d _ hK3 hcn.sum (by omega)).mono ?_)
            rintro e_ w26 ⟨rfl, hb⟩
            refine cR ?_
            have hpend := hb
            replace hbw := bthen hbw hb
            have hz_w26 := hb.size
            clear hb
            rw [hcn.net, hdp]
            refine gY (g := 118) rfl rfl rfl ?_
            refine sm rfl rfl ?_
            refine gY (g := 118) rfl rfl rfl ?_
            refine st (X.eqS rfl rfl) rfl ?_
            refine gY (g := 115) rfl rfl rfl ?_
            refine st (X.pickT rfl rfl) rfl ?_
            refine st (X.pickF rfl rfl) rfl ?_
            refine sbY rfl (by simp) rfl ?_
            refine gY (g := 125) rfl rfl rfl ?_
            refine sc _ Try.func18 rfl (by kernel_rfl) rfl rfl ((awake_any _).mono ?_)
            rintro e_ w27 ⟨rfl, hb⟩
            refine cR ?_
            replace hpend := bthen hpend hb
            replace hbw := bthen hbw hb
            have hz_w27 := hb.size
            clear hb
            refine st (X.pickT rfl rfl) rfl ?_
            refine sa rfl rfl ?_
            refine Wn ?_
            refine tN ?_
            replace hK := hK.bel hpend
            replace hK2 := hK2.bel hpend
            replace hR8 := hR8.bel hpend
            replace hK3 := hK3.bel hpend
            clear hpend
            refine W_ret ?_
            exact (rT rfl rfl ⟨rfl, hbw⟩).1
          · first | replace h91 := of_decide_eq_false h91 | replace h91 := of_decide_eq_true (notF h91) | replace h91 := notF h91 | skip
            refine W_skip ?_
            refine tN ?_
            refine W_rs ?_
            refine sm rfl rfl ?_
            refine sc _ Try.func42 rfl (by kernel_rfl) rfl rfl ((Decode_yes _ (by omega) hd).mono ?_)
            rintro e_ w28 ⟨g3, b3, rfl, hK3, hgl3, hbl3, hgb3, hb⟩
            refine cR ?_
            have hpend := hb
            replace hbw := bthen hbw hb
            have hz_w28 := hb.size
            clear hb
            replace hK := hK.bel hpend
            replace hK2 := hK2.bel hpend
            replace hR8 := hR8.bel hpend
            clear hpend
            refine sm rfl rfl ?_
            refine st (X.ext rfl rfl) rfl ?_
            refine st (X.ext rfl rfl) rfl ?_
            refine sa rfl rfl ?_
            refine sa rfl rfl ?_
            refine Wn ?_
            refine tN ?_
            refine W_rs ?_
            refine sm rfl rfl ?_
            refine st (X.neq rfl rfl) rfl ?_
            refine sbN rfl (by simp) rfl ?_
            refine gN (g := 111) rfl rfl rfl rfl ?_
            refine gN (g := 111) rfl rfl rfl rfl ?_
            refine st (X.pickF rfl rfl) rfl ?_
            refine sm rfl rfl ?_
            refine gY (g := 115) rfl rfl rfl ?_
            refine sm rfl rfl ?_
            refine gY (g := 115) rfl rfl rfl ?_
            refine st (X.eql rfl rfl) rfl ?_
            refine gY (g := 115) rfl rfl rfl ?_
            refine sbY rfl (by simp) rfl ?_
            refine gY (g := 118) rfl rfl rfl ?_
            refine sm rfl rfl ?_
            refine gY (g := 118) rfl rfl rfl ?_
            refine sc _ Try.func32 rfl (by kernel_rfl) rfl rfl ((Encode_cnt g3 b3 d _ hK3 hcn.sum (by omega)).mono ?_)
            rintro e_ w29 ⟨rfl, hb⟩
            refine cR ?_
            have hpend := hb
            replace hbw := bthen hbw hb
            have hz_w29 := hb.size
            clear hb
            rw [hcn.net, hdp]
            refine gY (g := 118) rfl rfl rfl ?_
            refine sm rfl rfl ?_
            refine gY (g := 118) rfl rfl rfl ?_
            refine st (X.eqS rfl rfl) rfl ?_
            refine gY (g := 115) rfl rfl rfl ?_
            refine st (X.pickT rfl rfl) rfl ?_
            refine st (X.pickF rfl rfl) rfl ?_
            refine sbY rfl (by simp) rfl ?_
            refine gY (g := 125) rfl rfl rfl ?_
            refine sc _ Try.func18 rfl (by kernel_rfl) rfl rfl ((awake_any _).mono ?_)
            rintro e_ w30 ⟨rfl, hb⟩
            refine cR ?_
            replace hpend := bthen hpend hb
            replace hbw := bthen hbw hb
            have hz_w30 := hb.size
            clear hb
            refine st (X.pickT rfl rfl) rfl ?_
            refine sa rfl rfl ?_
            refine Wn ?_
            refine tN ?_
            replace hK := hK.bel hpend
            replace hK2 := hK2.bel hpend
            replace hR8 := hR8.bel hpend
            replace hK3 := hK3.bel hpend
            clear hpend
            refine W_ret ?_
            exact (rT rfl rfl ⟨rfl, hbw⟩).1
      · first | replace h35 := of_decide_eq_false h35 | replace h35 := of_decide_eq_true (notF h35) | replace h35 := notF h35 | skip
        refine W_skip ?_
        refine tN ?_
        refine W_rs ?_
        refine sc _ Try.func25 rfl (by kernel_rfl) rfl rfl ((New_any _).mono ?_)
        rintro e_ w31 ⟨g, b, rfl, hK, hgl, hbl, hgb, hb⟩
        refine cR ?_
        replace hbw := bthen hbw hb
        have hz_w31 := hb.size
        clear hb
        have hgw : w.heap.size ≤ g := by have := hbw.size; omega
        have hbg : w.heap.size ≤ b := by have := hbw.size; omega
        refine sa rfl rfl ?_
        refine Wn ?_
        refine tN ?_
        refine W_rs ?_
        refine sm rfl rfl ?_
        refine sm rfl rfl ?_
        refine sc _ Try.func26 rfl (by kernel_rfl) rfl rfl ((Add_any g b [] v l _ hK cnts_nil (h.bel hbw)).mono ?_)
        rintro e_ w32 hadd
        have hac := addM_cnts cnts_nil (l := l) h32
        have hal := add_len l
        have hab := add_bad (l := l)
        obtain ⟨⟨x, gn, er⟩, hr⟩ : ∃ r, addM [] l = r := ⟨_, rfl⟩
        rw [hr] at hadd hac hal hab
        obtain ⟨v2, rfl, hG2, hO2, hC2, hch⟩ := hadd
        refine cR ?_
        replace hK := hC2
        replace hbw := bset hbw hch (by omega)
        have hz92 := hch.size
        clear hch hC2 hG2 hr
        have hxl : x.length ≤ 60 := Nat.le_trans hal hll
        have hxs : ∀ c ∈ x, c.sum.length = 32 := hac.sum
        have hxn : netM x = x := hac.net
        refine sm rfl rfl ?_
        refine st (X.ext rfl rfl) rfl ?_
        refine st (X.ext rfl rfl) rfl ?_
        refine sa rfl rfl ?_
        refine sa rfl rfl ?_
        refine Wn ?_
        refine tN ?_
        refine W_rs ?_
        refine sm rfl rfl ?_
        refine sc _ Try.func32 rfl (by kernel_rfl) rfl rfl ((Encode_cnt g b x _ hK hxs (by omega)).mono ?_)
        rintro e_ w33 ⟨rfl, hb⟩
        refine cR ?_
        have hpend := hb
        replace hbw := bthen hbw hb
        have hz_w33 := hb.size
        clear hb
        rw [hxn]
        refine sc _ Try.func42 rfl (by kernel_rfl) rfl rfl ((Decode_yes _ (packed_small hxs (by omega)) (cnts_dec hac (by omega))).mono ?_)
        rintro e_ w34 ⟨g2, b2, rfl, hK2, hgl2, hbl2, hgb2, hb⟩
        refine cR ?_
        replace hpend := bthen hpend hb
        replace hbw := bthen hbw hb
        have hz_w34 := hb.size
        clear hb
        replace hK := hK.bel hpend
        clear hpend
        refine sm rfl rfl ?_
        refine st (X.ext rfl rfl) rfl ?_
        refine st (X.ext rfl rfl) rfl ?_
        refine sa rfl rfl ?_
        refine sa rfl rfl ?_
        refine Wn ?_
        refine tN ?_
        refine W_seq ?_
        refine W_rs ?_
        refine sm rfl rfl ?_
        refine st (X.neq rfl rfl) rfl ?_
        refine sbN rfl (by simp) rfl ?_
        refine gY (g := 65) rfl rfl rfl ?_
        refine sm rfl rfl ?_
        refine gY (g := 65) rfl rfl rfl ?_
        refine st (X.nilP rfl) rfl ?_
        refine st (X.pickF rfl rfl) rfl ?_
        refine sbN rfl (rfl) rfl ?_
        refine gY (g := 69) rfl rfl rfl ?_
        refine sm rfl rfl ?_
        refine gY (g := 69) rfl rfl rfl ?_
        refine sc _ Try.func32 rfl (by kernel_rfl) rfl rfl ((Encode_cnt g2 b2 x _ hK2 hxs (by omega)).mono ?_)
        rintro e_ w35 ⟨rfl, hb⟩
        refine cR ?_
        have hpend := hb
        replace hbw := bthen hbw hb
        have hz_w35 := hb.size
        clear hb
        refine gY (g := 69) rfl rfl rfl ?_
        refine sm rfl rfl ?_
        refine gY (g := 69) rfl rfl rfl ?_
        replace hK := hK.bel hpend
        replace hK2 := hK2.bel hpend
        clear hpend
        refine sc _ Try.func32 rfl (by kernel_rfl) rfl rfl ((Encode_cnt g b x _ hK hxs (by omega)).mono ?_)
        rintro e_ w36 ⟨rfl, hb⟩
        refine cR ?_
        have hpend := hb
        replace hbw := bthen hbw hb
        have hz_w36 := hb.size
        clear hb
        refine gY (g := 69) rfl rfl rfl ?_
        refine st (X.neS rfl rfl) rfl ?_
        refine st (X.pickF rfl rfl) rfl ?_
        refine sbN rfl (by simp) rfl ?_
        refine gY (g := 76) rfl rfl rfl ?_
        refine sm rfl rfl ?_
        refine gY (g := 76) rfl rfl rfl ?_
        refine st (X.neq rfl rfl) rfl ?_
        refine gY (g := 76) rfl rfl rfl ?_
        refine sb rfl rfl (fun h79 => ?_) (fun h79 => ?_)
        · first | replace h79 := of_decide_eq_true h79 | replace h79 := of_decide_eq_false (notT h79) | replace h79 := notT h79 | skip
          refine gY (g := 79) rfl rfl rfl ?_
          refine sm rfl rfl ?_
          refine gY (g := 79) rfl rfl rfl ?_
          replace hK := hK.bel hpend
          replace hK2 := hK2.bel hpend
          clear hpend
          refine sc _ Try.func29 rfl (by kernel_rfl) rfl rfl ((Len_any g b x _ hK hxs).mono ?_)
          rintro e_ w37 ⟨rfl, hb⟩
          refine cR ?_
          have hpend := hb
          replace hbw := bthen hbw hb
          have hz_w37 := hb.size
          clear hb
          rw [hxn, show x = [] from hab (by simpa using h79)]
          refine gY (g := 79) rfl rfl rfl ?_
          refine st (X.neq rfl rfl) rfl ?_
          refine gY (g := 76) rfl rfl rfl ?_
          refine st (X.pickT rfl rfl) rfl ?_
          refine st (X.pickF rfl rfl) rfl ?_
          refine Wn ?_
          refine tN ?_
          refine W_no rfl (by simp) ?_
          refine W_skip ?_
          refine tN ?_
          refine W_rs ?_
          refine sm rfl rfl ?_
          refine sc _ Try.func40 rfl (by kernel_rfl) rfl rfl ((Unpack_any s _ (by omega)).mono ?_)
          rintro e_ w38 ⟨v8, rfl, hR8, hO8, hb⟩
          refine cR ?_
          replace hpend := bthen hpend hb
          replace hbw := bthen hbw hb
          have hz_w38 := hb.size
          clear hb
          replace hK := hK.bel hpend
          replace hK2 := hK2.bel hpend
          clear hpend
          refine sm rfl rfl ?_
          refine st (X.ext rfl rfl) rfl ?_
          refine st (X.ext rfl rfl) rfl ?_
          refine sa rfl rfl ?_
          refine sa rfl rfl ?_
          refine Wn ?_
          refine tN ?_
          refine W_seq ?_
          refine W_rs ?_
          refine sm rfl rfl ?_
          refine st (X.eql rfl rfl) rfl ?_
          refine Wn ?_
          refine tN ?_
          refine W_if rfl (fun h91 => ?_) (fun h91 => ?_)
          · first | replace h91 := of_decide_eq_true h91 | replace h91 := of_decide_eq_false (notT h91) | replace h91 := notT h91 | skip
            have hu := unpack_zero (s := s) (fun h => h h91)
            obtain ⟨m, hm⟩ : ∃ m, okOf [] (unpackM s) = m := ⟨_, rfl⟩
            rw [hm] at hu hR8
            have hm32 : ∀ c ∈ m, c.sum.length = 32 := fun c hc => ((unpack_ok hu).2.1 c hc).1
            refine W_rs ?_
            refine sm rfl rfl ?_
            refine sc _ Try.func19 rfl (by kernel_rfl) rfl rfl ((Pack_any v8 m _ ⟨hR8.reads, hm32⟩).mono ?_)
            rintro e_ w39 ⟨rfl, hb⟩
            refine cR ?_
            have hpend := hb
            replace hbw := bthen hbw hb
            have hz_w39 := hb.size
            clear hb
            rw [unpack_pack hu]
            refine sm rfl rfl ?_
            refine st (X.ext rfl rfl) rfl ?_
            refine st (X.ext rfl rfl) rfl ?_
            refine sa rfl rfl ?_
            refine sa rfl rfl ?_
            refine Wn ?_
            refine tN ?_
            refine W_rs ?_
            refine sm rfl rfl ?_
            refine st (X.neq rfl rfl) rfl ?_
            refine sbN rfl (by simp [errO]) rfl ?_
            refine gY (g := 99) rfl rfl rfl ?_
            refine sm rfl rfl ?_
            refine gY (g := 99) rfl rfl rfl ?_
            refine sm rfl rfl ?_
            refine gY (g := 99) rfl rfl rfl ?_
            refine st (X.neS rfl rfl) rfl ?_
            refine st (X.pickF rfl rfl) rfl ?_
            refine Wn ?_
            refine tN ?_
            refine W_no rfl (by simp [okOf]) ?_
            refine W_skip ?_
            refine tN ?_
            refine W_rs ?_
            refine sm rfl rfl ?_
            refine sc _ Try.func42 rfl (by kernel_rfl) rfl rfl ((Decode_yes _ (by omega) hd).mono ?_)
            rintro e_ w40 ⟨g3, b3, rfl, hK3, hgl3, hbl3, hgb3, hb⟩
            refine cR ?_
            replace hpend := bthen hpend hb
            replace hbw := bthen hbw hb
            have hz_w40 := hb.size
            clear hb
            replace hK := hK.bel hpend
            replace hK2 := hK2.bel hpend
            replace hR8 := hR8.bel hpend
            clear hpend
            refine sm rfl rfl ?_
            refine st (X.ext rfl rfl) rfl ?_
            refine st (X.ext rfl rfl) rfl ?_
            refine sa rfl rfl ?_
            refine sa rfl rfl ?_
            refine Wn ?_
            refine tN ?_
            refine W_rs ?_
            refine sm rfl rfl ?_
            refine st (X.neq rfl rfl) rfl ?_
            refine sbN rfl (by simp) rfl ?_
            refine gN (g := 111) rfl rfl rfl rfl ?_
            refine gN (g := 111) rfl rfl rfl rfl ?_
            refine st (X.pickF rfl rfl) rfl ?_
            refine sm rfl rfl ?_
            refine gY (g := 115) rfl rfl rfl ?_
            refine sm rfl rfl ?_
            refine gY (g := 115) rfl rfl rfl ?_
            refine st (X.eql rfl rfl) rfl ?_
            refine gY (g := 115) rfl rfl rfl ?_
            refine sbY rfl (by simp) rfl ?_
            refine gY (g := 118) rfl rfl rfl ?_
            refine sm rfl rfl ?_
            refine gY (g := 118) rfl rfl rfl ?_
            refine sc _ Try.func32 rfl (by kernel_rfl) rfl rfl ((Encode_cnt g3 b3 d _ hK3 hcn.sum (by omega)).mono ?_)
            rintro e_ w41 ⟨rfl, hb⟩
            refine cR ?_
            have hpend := hb
            replace hbw := bthen hbw hb
            have hz_w41 := hb.size
            clear hb
            rw [hcn.net, hdp]
            refine gY (g := 118) rfl rfl rfl ?_
            refine sm rfl rfl ?_
            refine gY (g := 118) rfl rfl rfl ?_
            refine st (X.eqS rfl rfl) rfl ?_
            refine gY (g := 115) rfl rfl rfl ?_
            refine st (X.pickT rfl rfl) rfl ?_
            refine st (X.pickF rfl rfl) rfl ?_
            refine sbY rfl (by simp) rfl ?_
            refine gY (g := 125) rfl rfl rfl ?_
            refine sc _ Try.func18 rfl (by kernel_rfl) rfl rfl ((awake_any _).mono ?_)
            rintro e_ w42 ⟨rfl, hb⟩
            refine cR ?_
            replace hpend := bthen hpend hb
            replace hbw := bthen hbw hb
            have hz_w42 := hb.size
            clear hb
            refine st (X.pickT rfl rfl) rfl ?_
            refine sa rfl rfl ?_
            refine Wn ?_
            refine tN ?_
            replace hK := hK.bel hpend
            replace hK2 := hK2.bel hpend
            replace hR8 := hR8.bel hpend
            replace hK3 := hK3.bel hpend
            clear hpend
            refine W_ret ?_
            exact (rT rfl rfl ⟨rfl, hbw⟩).1
          · first | replace h91 := of_decide_eq_false h91 | replace h91 := of_decide_eq_true (notF h91) | replace h91 := notF h91 | skip
            refine W_skip ?_
            refine tN ?_
            refine W_rs ?_
            refine sm rfl rfl ?_
            refine sc _ Try.func42 rfl (by kernel_rfl) rfl rfl ((Decode_yes _ (by omega) hd).mono ?_)
            rintro e_ w43 ⟨g3, b3, rfl, hK3, hgl3, hbl3, hgb3, hb⟩
            refine cR ?_
            have hpend := hb
            replace hbw := bthen hbw hb
            have hz_w43 := hb.size
            clear hb
            replace hK := hK.bel hpend
            replace hK2 := hK2.bel hpend
            replace hR8 := hR8.bel hpend
            clear hpend
            refine sm rfl rfl ?_
            refine st (X.ext rfl rfl) rfl ?_
            refine st (X.ext rfl rfl) rfl ?_
            refine sa rfl rfl ?_
            refine sa rfl rfl ?_
            refine Wn ?_
            refine tN ?_
            refine W_rs ?_
            refine sm rfl rfl ?_
            refine st (X.neq rfl rfl) rfl ?_
            refine sbN rfl (by simp) rfl ?_
            refine gN (g := 111) rfl rfl rfl rfl ?_
            refine gN (g := 111) rfl rfl rfl rfl ?_
            refine st (X.pickF rfl rfl) rfl ?_
            refine sm rfl rfl ?_
            refine gY (g := 115) rfl rfl rfl ?_
            refine sm rfl rfl ?_
            refine gY (g := 115) rfl rfl rfl ?_
            refine st (X.eql rfl rfl) rfl ?_
            refine gY (g := 115) rfl rfl rfl ?_
            refine sbY rfl (by simp) rfl ?_
            refine gY (g := 118) rfl rfl rfl ?_
            refine sm rfl rfl ?_
            refine gY (g := 118) rfl rfl rfl ?_
            refine sc _ Try.func32 rfl (by kernel_rfl) rfl rfl ((Encode_cnt g3 b3 d _ hK3 hcn.sum (by omega)).mono ?_)
            rintro e_ w44 ⟨rfl, hb⟩
            refine cR ?_
            have hpend := hb
            replace hbw := bthen hbw hb
            have hz_w44 := hb.size
            clear hb
            rw [hcn.net, hdp]
            refine gY (g := 118) rfl rfl rfl ?_
            refine sm rfl rfl ?_
            refine gY (g := 118) rfl rfl rfl ?_
            refine st (X.eqS rfl rfl) rfl ?_
            refine gY (g := 115) rfl rfl rfl ?_
            refine st (X.pickT rfl rfl) rfl ?_
            refine st (X.pickF rfl rfl) rfl ?_
            refine sbY rfl (by simp) rfl ?_
            refine gY (g := 125) rfl rfl rfl ?_
            refine sc _ Try.func18 rfl (by kernel_rfl) rfl rfl ((awake_any _).mono ?_)
            rintro e_ w45 ⟨rfl, hb⟩
            refine cR ?_
            replace hpend := bthen hpend hb
            replace hbw := bthen hbw hb
            have hz_w45 := hb.size
            clear hb
            refine st (X.pickT rfl rfl) rfl ?_
            refine sa rfl rfl ?_
            refine Wn ?_
            refine tN ?_
            replace hK := hK.bel hpend
            replace hK2 := hK2.bel hpend
            replace hR8 := hR8.bel hpend
            replace hK3 := hK3.bel hpend
            clear hpend
            refine W_ret ?_
            exact (rT rfl rfl ⟨rfl, hbw⟩).1
        · first | replace h79 := of_decide_eq_false h79 | replace h79 := of_decide_eq_true (notF h79) | replace h79 := notF h79 | skip
          refine gN (g := 79) rfl rfl rfl rfl ?_
          refine gN (g := 79) rfl rfl rfl rfl ?_
          refine gN (g := 79) rfl rfl rfl rfl ?_
          refine gY (g := 76) rfl rfl rfl ?_
          refine st (X.pickF rfl rfl) rfl ?_
          refine st (X.pickF rfl rfl) rfl ?_
          refine Wn ?_
          refine tN ?_
          refine W_no rfl (by simp) ?_
          refine W_skip ?_
          refine tN ?_
          refine W_rs ?_
          refine sm rfl rfl ?_
          refine sc _ Try.func40 rfl (by kernel_rfl) rfl rfl ((Unpack_any s _ (by omega)).mono ?_)
          rintro e_ w46 ⟨v8, rfl, hR8, hO8, hb⟩
          refine cR ?_
          replace hpend := bthen hpend hb
          replace hbw := bthen hbw hb
          have hz_w46 := hb.size
          clear hb
          replace hK := hK.bel hpend
          replace hK2 := hK2.bel hpend
          clear hpend
          refine sm rfl rfl ?_
          refine st (X.ext rfl rfl) rfl ?_
          refine st (X.ext rfl rfl) rfl ?_
          refine sa rfl rfl ?_
          refine sa rfl rfl ?_
          refine Wn ?_
          refine tN ?_
          refine W_seq ?_
          refine W_rs ?_
          refine sm rfl rfl ?_
          refine st (X.eql rfl rfl) rfl ?_
          refine Wn ?_
          refine tN ?_
          refine W_if rfl (fun h91 => ?_) (fun h91 => ?_)
          · first | replace h91 := of_decide_eq_true h91 | replace h91 := of_decide_eq_false (notT h91) | replace h91 := notT h91 | skip
            have hu := unpack_zero (s := s) (fun h => h h91)
            obtain ⟨m, hm⟩ : ∃ m, okOf [] (unpackM s) = m := ⟨_, rfl⟩
            rw [hm] at hu hR8
            have hm32 : ∀ c ∈ m, c.sum.length = 32 := fun c hc => ((unpack_ok hu).2.1 c hc).1
            refine W_rs ?_
            refine sm rfl rfl ?_
            refine sc _ Try.func19 rfl (by kernel_rfl) rfl rfl ((Pack_any v8 m _ ⟨hR8.reads, hm32⟩).mono ?_)
            rintro e_ w47 ⟨rfl, hb⟩
            refine cR ?_
            have hpend := hb
            replace hbw := bthen hbw hb
            have hz_w47 := hb.size
            clear hb
            rw [unpack_pack hu]
            refine sm rfl rfl ?_
            refine st (X.ext rfl rfl) rfl ?_
            refine st (X.ext rfl rfl) rfl ?_
            refine sa rfl rfl ?_
            refine sa rfl rfl ?_
            refine Wn ?_
            refine tN ?_
            refine W_rs ?_
            refine sm rfl rfl ?_
            refine st (X.neq rfl rfl) rfl ?_
            refine sbN rfl (by simp [errO]) rfl ?_
            refine gY (g := 99) rfl rfl rfl ?_
            refine sm rfl rfl ?_
            refine gY (g := 99) rfl rfl rfl ?_
            refine sm rfl rfl ?_
            refine gY (g := 99) rfl rfl rfl ?_
            refine st (X.neS rfl rfl) rfl ?_
            refine st (X.pickF rfl rfl) rfl ?_
            refine Wn ?_
            refine tN ?_
            refine W_no rfl (by simp [okOf]) ?_
            refine W_skip ?_
            refine tN ?_
            refine W_rs ?_
            refine sm rfl rfl ?_
            refine sc _ Try.func42 rfl (by kernel_rfl) rfl rfl ((Decode_yes _ (by omega) hd).mono ?_)
            rintro e_ w48 ⟨g3, b3, rfl, hK3, hgl3, hbl3, hgb3, hb⟩
            refine cR ?_
            replace hpend := bthen hpend hb
            replace hbw := bthen hbw hb
            have hz_w48 := hb.size
            clear hb
            replace hK := hK.bel hpend
            replace hK2 := hK2.bel hpend
            replace hR8 := hR8.bel hpend
            clear hpend
            refine sm rfl rfl ?_
            refine st (X.ext rfl rfl) rfl ?_
            refine st (X.ext rfl rfl) rfl ?_
            refine sa rfl rfl ?_
            refine sa rfl rfl ?_
            refine Wn ?_
            refine tN ?_
            refine W_rs ?_
            refine sm rfl rfl ?_
            refine st (X.neq rfl rfl) rfl ?_
            refine sbN rfl (by simp) rfl ?_
            refine gN (g := 111) rfl rfl rfl rfl ?_
            refine gN (g := 111) rfl rfl rfl rfl ?_
            refine st (X.pickF rfl rfl) rfl ?_
            refine sm rfl rfl ?_
            refine gY (g := 115) rfl rfl rfl ?_
            refine sm rfl rfl ?_
            refine gY (g := 115) rfl rfl rfl ?_
            refine st (X.eql rfl rfl) rfl ?_
            refine gY (g := 115) rfl rfl rfl ?_
            refine sbY rfl (by simp) rfl ?_
            refine gY (g := 118) rfl rfl rfl ?_
            refine sm rfl rfl ?_
            refine gY (g := 118) rfl rfl rfl ?_
            refine sc _ Try.func32 rfl (by kernel_rfl) rfl rfl ((Encode_cnt g3 b3 d _ hK3 hcn.sum (by omega)).mono ?_)
            rintro e_ w49 ⟨rfl, hb⟩
            refine cR ?_
            have hpend := hb
            replace hbw := bthen hbw hb
            have hz_w49 := hb.size
            clear hb
            rw [hcn.net, hdp]
            refine gY (g := 118) rfl rfl rfl ?_
            refine sm rfl rfl ?_
            refine gY (g := 118) rfl rfl rfl ?_
            refine st (X.eqS rfl rfl) rfl ?_
            refine gY (g := 115) rfl rfl rfl ?_
            refine st (X.pickT rfl rfl) rfl ?_
            refine st (X.pickF rfl rfl) rfl ?_
            refine sbY rfl (by simp) rfl ?_
            refine gY (g := 125) rfl rfl rfl ?_
            refine sc _ Try.func18 rfl (by kernel_rfl) rfl rfl ((awake_any _).mono ?_)
            rintro e_ w50 ⟨rfl, hb⟩
            refine cR ?_
            replace hpend := bthen hpend hb
            replace hbw := bthen hbw hb
            have hz_w50 := hb.size
            clear hb
            refine st (X.pickT rfl rfl) rfl ?_
            refine sa rfl rfl ?_
            refine Wn ?_
            refine tN ?_
            replace hK := hK.bel hpend
            replace hK2 := hK2.bel hpend
            replace hR8 := hR8.bel hpend
            replace hK3 := hK3.bel hpend
            clear hpend
            refine W_ret ?_
            exact (rT rfl rfl ⟨rfl, hbw⟩).1
          · first | replace h91 := of_decide_eq_false h91 | replace h91 := of_decide_eq_true (notF h91) | replace h91 := notF h91 | skip
            refine W_skip ?_
            refine tN ?_
            refine W_rs ?_
            refine sm rfl rfl ?_
            refine sc _ Try.func42 rfl (by kernel_rfl) rfl rfl ((Decode_yes _ (by omega) hd).mono ?_)
            rintro e_ w51 ⟨g3, b3, rfl, hK3, hgl3, hbl3, hgb3, hb⟩
            refine cR ?_
            have hpend := hb
            replace hbw := bthen hbw hb
            have hz_w51 := hb.size
            clear hb
            replace hK := hK.bel hpend
            replace hK2 := hK2.bel hpend
            replace hR8 := hR8.bel hpend
            clear hpend
            refine sm rfl rfl ?_
            refine st (X.ext rfl rfl) rfl ?_
            refine st (X.ext rfl rfl) rfl ?_
            refine sa rfl rfl ?_
            refine sa rfl rfl ?_
            refine Wn ?_
            refine tN ?_
            refine W_rs ?_
            refine sm rfl rfl ?_
            refine st (X.neq rfl rfl) rfl ?_
            refine sbN rfl (by simp) rfl ?_
            refine gN (g := 111) rfl rfl rfl rfl ?_
            refine gN (g := 111) rfl rfl rfl rfl ?_
            refine st (X.pickF rfl rfl) rfl ?_
            refine sm rfl rfl ?_
            refine gY (g := 115) rfl rfl rfl ?_
            refine sm rfl rfl ?_
            refine gY (g := 115) rfl rfl rfl ?_
            refine st (X.eql rfl rfl) rfl ?_
            refine gY (g := 115) rfl rfl rfl ?_
            refine sbY rfl (by simp) rfl ?_
            refine gY (g := 118) rfl rfl rfl ?_
            refine sm rfl rfl ?_
            refine gY (g := 118) rfl rfl rfl ?_
            refine sc _ Try.func32 rfl (by kernel_rfl) rfl rfl ((Encode_cnt g3 b3 d _ hK3 hcn.sum (by omega)).mono ?_)
            rintro e_ w52 ⟨rfl, hb⟩
            refine cR ?_
            have hpend := hb
            replace hbw := bthen hbw hb
            have hz_w52 := hb.size
            clear hb
            rw [hcn.net, hdp]
            refine gY (g := 118) rfl rfl rfl ?_
            refine sm rfl rfl ?_
            refine gY (g := 118) rfl rfl rfl ?_
            refine st (X.eqS rfl rfl) rfl ?_
            refine gY (g := 115) rfl rfl rfl ?_
            refine st (X.pickT rfl rfl) rfl ?_
            refine st (X.pickF rfl rfl) rfl ?_
            refine sbY rfl (by simp) rfl ?_
            refine gY (g := 125) rfl rfl rfl ?_
            refine sc _ Try.func18 rfl (by kernel_rfl) rfl rfl ((awake_any _).mono ?_)
            rintro e_ w53 ⟨rfl, hb⟩
            refine cR ?_
            replace hpend := bthen hpend hb
            replace hbw := bthen hbw hb
            have hz_w53 := hb.size
            clear hb
            refine st (X.pickT rfl rfl) rfl ?_
            refine sa rfl rfl ?_
            refine Wn ?_
            refine tN ?_
            replace hK := hK.bel hpend
            replace hK2 := hK2.bel hpend
            replace hR8 := hR8.bel hpend
            replace hK3 := hK3.bel hpend
            clear hpend
            refine W_ret ?_
            exact (rT rfl rfl ⟨rfl, hbw⟩).1
theorem RefsBack_walk (w : World) (v : Value) (l : List Chk) (h : ChksAt w v l) (s : List UInt8) (hs : s.length ≤ 9223372036854775807) : Calls Try.prog 9 #[v, str s] w fun e w' => e = .returned (.bool true) ∧ Below w.heap.size w w' := by
  cases hd : decodeC s with
  | error k => exact RefsBk_no w v l h hs hd
  | ok l => exact RefsBk_yes w v _ h hs hd
end Go.Proofs.Ytnagmpnpgekhfaa
