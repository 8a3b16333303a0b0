/- refs: Decode; armariumref17: Unpack, Decode. -/
import Derived.Test.YtnagmpnpgekhfaaRefsPack
import Derived.Test.YtnagmpnpgekhfaaRefs5
import Derived.Test.YtnagmpnpgekhfaaRefOf
namespace Go.Proofs.Ytnagmpnpgekhfaa
open Go.RowKit
theorem unpack_err {s : List UInt8} {e : Int} (h : unpackM s = .error e) : e ≠ 0 := by
  unfold unpackM at h
  repeat' split at h
  all_goals first | (injection h with h; omega) | cases h
theorem unpack_zero {s : List UInt8} (h : ¬ errO (unpackM s) ≠ 0) : unpackM s = .ok (okOf [] (unpackM s)) := by
  cases hu : unpackM s with
  | error e => rw [hu] at h; exact absurd (Classical.not_not.1 h) (unpack_err hu)
  | ok l => rfl
theorem unpack_nonz {s : List UInt8} (h : errO (unpackM s) ≠ 0) : unpackM s = .error (errO (unpackM s)) := by
  cases hu : unpackM s with
  | error e => rfl
  | ok l => rw [hu] at h; exact absurd rfl h
theorem decode_bad {s : List UInt8} (h : errO (unpackM s) ≠ 0) : decodeC s = .error (errO (unpackM s)) := by
  unfold decodeC
  rw [unpack_nonz h]
  rfl
theorem decode_neg {s : List UInt8} {l : List Chk} (h : unpackM s = .ok l) (hn : l.any negN = true) : decodeC s = .error 12 := by
  unfold decodeC
  rw [h]
  exact if_pos hn
theorem decode_pos {s : List UInt8} {l : List Chk} (h : unpackM s = .ok l) (hn : l.any negN = false) : decodeC s = .ok l := by
  unfold decodeC
  rw [h]
  exact if_neg (by rw [hn]; simp)
theorem decode_err {s : List UInt8} {e : Int} (h : decodeC s = .error e) : e ≠ 0 := by
  unfold decodeC at h
  split at h
  · rename_i he; injection h with h; subst h; exact unpack_err he
  · split at h
    · injection h with h; omega
    · cases h
theorem decode_ok {s : List UInt8} {l : List Chk} (h : decodeC s = .ok l) : unpackM s = .ok l ∧ l.any negN = false := by
  unfold decodeC at h
  split at h
  · cases h
  · rename_i he
    split at h
    · cases h
    · rename_i hn
      injection h with h
      subst h
      exact ⟨he, Bool.eq_false_iff.2 hn⟩
theorem any_not {l : List Chk} (h : l.any negN = false) {c : Chk} (hc : c ∈ l) : 0 ≤ c.len := by
  have h1 := List.any_eq_false.1 h c hc
  have h2 := of_decide_eq_false (Bool.eq_false_iff.2 h1 : decide (c.len < 0) = false)
  omega
theorem decode_cnts {s : List UInt8} {l : List Chk} (h : decodeC s = .ok l) : Cnts l := by
  obtain ⟨h1, h2⟩ := decode_ok h
  obtain ⟨h3, h4, _, _⟩ := unpack_ok h1
  exact ⟨h3, fun c hc => by have := h4 c hc; have := any_not h2 hc; omega, fun c hc => (h4 c hc).1⟩
def DecPost17 (w : World) (r : Except Int (List Chk)) (e : Ending) (w' : World) : Prop := match r with
  | .error k => e = .returned (.tuple #[.pointer none, .int .i64 k]) ∧ Below w.heap.size w w'
  | .ok l => ∃ g b, e = .returned (.tuple #[.pointer (some ⟨g, 0, none⟩), .int .i64 0]) ∧ CountsAt w' g b l ∧ w.heap.size ≤ g ∧ w.heap.size ≤ b ∧ g ≠ b ∧ Below w.heap.size w w'
theorem dec_no {w w' : World} {r : Except Int (List Chk)} {k : Int} (h : r = .error k) (hb : Below w.heap.size w w') : DecPost17 w r (.returned (.tuple #[.pointer none, .int .i64 k])) w' := by
  subst h
  exact ⟨rfl, hb⟩
theorem dec_yes {w w' : World} {r : Except Int (List Chk)} {l : List Chk} {g b : Nat} (h : r = .ok l) (hC : CountsAt w' g b l) (h1 : w.heap.size ≤ g) (h2 : w.heap.size ≤ b) (h3 : g ≠ b) (hb : Below w.heap.size w w') : DecPost17 w r (.returned (.tuple #[.pointer (some ⟨g, 0, none⟩), .int .i64 0])) w' := by
  subst h
  exact ⟨g, b, rfl, hC, h1, h2, h3, hb⟩
set_option maxRecDepth 10000 in
set_option maxHeartbeats 1000000 in
theorem Decode_any (s : List UInt8) (w : World) (hs : s.length < 1000000) : Calls Try.prog 42 #[str s] w (DecPost17 w (decodeC s)) := by
  refine W_enter (args := [str s]) 37 Try.func42 rfl rfl rfl ?_
  refine W_sub [(0, str s)] ?_ ⟨rfl, trivial⟩
  have hbw := Below.refl w.heap.size w
  refine W_rs ?_
  refine sa rfl rfl ?_
  refine sa rfl rfl ?_
  refine Wn ?_
  refine tN ?_
  refine W_rs ?_
  refine sm rfl rfl ?_
  refine sc _ Try.func40 rfl (by kernel_rfl) rfl rfl ((Unpack_any s _ hs).mono ?_)
  rintro e_ w1 ⟨v, rfl, hR, hO, hb⟩
  refine cR ?_
  replace hbw := bthen hbw hb
  have hz_w1 := hb.size
  clear hb
  obtain ⟨a, cp, rfl, hnn, hcp⟩ := hR.shape
  obtain ⟨L, hL⟩ : ∃ L, okOf [] (unpackM s) = L := ⟨_, rfl⟩
  rw [hL] at hR hnn
  rw [hL]
  refine sm rfl rfl ?_
  refine st (X.ext rfl rfl) rfl ?_
  refine st (X.ext rfl rfl) rfl ?_
  refine sa rfl rfl ?_
  refine sa rfl rfl ?_
  refine Wn ?_
  refine tN ?_
  refine W_seq ?_
  refine W_rs ?_
  refine sm rfl rfl ?_
  refine st (X.neq rfl rfl) rfl ?_
  refine Wn ?_
  refine tN ?_
  refine W_if rfl (fun h15 => ?_) (fun h15 => ?_)
  · first | replace h15 := of_decide_eq_true h15 | replace h15 := of_decide_eq_false (notT h15) | replace h15 := notT h15 | skip
    refine W_rs ?_
    refine sm rfl rfl ?_
    refine sa rfl rfl ?_
    refine sa rfl rfl ?_
    refine Wn ?_
    refine tN ?_
    refine W_ret (tR ?_)
    exact (rTT rfl rfl rfl (dec_no (decode_bad h15) hbw)).1
  · first | replace h15 := of_decide_eq_false h15 | replace h15 := of_decide_eq_true (notF h15) | replace h15 := notF h15 | skip
    have hu := unpack_zero h15
    have he0 : errO (unpackM s) = 0 := Classical.not_not.1 h15
    rw [hL] at hu
    obtain ⟨hsr, hall, hln, _⟩ := unpack_ok hu
    refine W_skip ?_
    refine tN ?_
    refine W_rs ?_
    refine sc _ Try.func25 rfl (by kernel_rfl) rfl rfl ((New_any _).mono ?_)
    rintro e_ w2 ⟨g, b, rfl, hN, hgl, hbl, hgb, hb⟩
    refine cR ?_
    have hpend := hb
    replace hbw := bthen hbw hb
    have hz_w2 := hb.size
    clear hb
    obtain ⟨hB, m0, hM, hm0⟩ := hN
    have hmx : CntMap m0 ([] ++ L.take 0) := hm0
    have hgw : w.heap.size ≤ g := by have := hbw.size; omega
    have hbg : w.heap.size ≤ b := by have := hbw.size; omega
    replace hR := hR.bel hpend
    clear hpend
    refine sa rfl rfl ?_
    refine Wn ?_
    refine tN ?_
    refine W_seq ?_
    refine W_rs ?_
    refine sm rfl rfl ?_
    refine st (X.lenL rfl rfl Try.underlying22) rfl ?_
    refine sm rfl rfl ?_
    refine Wn ?_
    refine tN ?_
    refine W_block ?_
    refine W_lp (fun nw3_ lw3_ w3 => ∃ j : Nat, ∃ m : List (Sum32 × Int), nw3_ = L.length - j ∧ lw3_ = ([(6, .pointer (some ⟨g, 0, none⟩)), (18, .slice a L.length cp), (19, .int .i64 L.length), (20, .int .i64 j)] : Env) ∧ (j ≤ L.length) ∧ (L.any negN = (L.drop j).any negN) ∧ (CntMap m ([] ++ L.take j)) ∧ (Blk w3 g 111 #[.map (some b)]) ∧ (MapAt w3 b encSum encInt m) ∧ (Row w3 57 33 (.slice a L.length cp) L.length (L.flatMap Chk.cells)) ∧ (Below w.heap.size w w3)) _ ⟨_, ⟨0, m0, rfl, rfl, by omega, rfl, hmx, hB, hM, hR, hbw⟩, ⟨rfl, rfl, rfl, rfl, trivial⟩⟩ ?_
    clear hmx hB hM hR hbw
    rintro nw3_ lw3_ w3 ⟨j, m, rfl, rfl, hj, hq, hmx, hB, hM, hR, hbw⟩
    have hz_w3 := hbw.size
    have hlt_hB_w3 := hB.lt
    refine W_rs ?_
    refine st (X.lss rfl rfl) rfl ?_
    refine Wn ?_
    refine tN ?_
    refine W_seq ?_
    refine W_if rfl (fun h21 => ?_) (fun h21 => ?_)
    · first | replace h21 := of_decide_eq_true h21 | replace h21 := of_decide_eq_false (notT h21) | replace h21 := notT h21 | skip
      obtain ⟨d, hd⟩ : ∃ d, L[j]? = some d := ⟨_, List.getElem?_eq_getElem (by omega)⟩
      have hda := hall d (List.mem_of_getElem? hd)
      have hds := hda.1
      have hRe := hR.reads
      obtain ⟨g1, o1, c', hv, hg1⟩ := hRe.some_ (by omega)
      injection hv with e1 _ e3
      subst e1 e3
      have hn0 : tot d.sum ([] ++ L.take j) = 0 := srt_take_tot hsr hd
      have hmx' : CntMap (mput m ⟨d.sum, hds⟩ d.len) ([] ++ L.take (j + 1)) := hmx.put hd hds (v := d.len) (by rw [hn0]; omega) hda.2.2.2
      refine W_skip ?_
      refine tN ?_
      refine W_seq ?_
      refine W_block ?_
      refine W_rs ?_
      refine st (X.idxA rfl rfl Try.underlying22 siz57 rfl (by omega)) rfl ?_
      refine st (X.ldN (cs := d.cells) rfl Try.underlying57 rfl (by rw [Chk.cells_length hds]; exact siz57) ((show ChksAt _ _ L from ⟨hRe, fun c hc => (hall c hc).1⟩).range hd)) rfl ?_
      refine salA inf57 rfl (fun g8 w4 hB8 hg8 hb hl8 => ?_)
      have hpend := hb
      replace hbw := bthen hbw hb
      replace hB := hB.bel hb
      have hz_w4 := hb.size
      clear hb
      refine ssBN rfl rfl hB8 (by rw [Chk.size hds]; exact siz57) (by rw [Chk.size hds]; rfl) (Chk.cells_one d) (fun w5 hB_ hc_ => ?_)
      replace hB8 := hB_
      clear hB_
      replace hpend := bset hpend hc_ (by omega)
      replace hB := hB.chg hc_ (by first | (show ¬ _ = _; omega) | (intro k_ hk_; simp [Value.ownBlock] at hk_; subst hk_; show ¬ _ = _; omega))
      replace hbw := bset hbw hc_ (by omega)
      have hz_w5 := hc_.size
      clear hc_
      refine Wn ?_
      refine tN ?_
      refine W_seq ?_
      refine W_rs ?_
      refine st (X.fa fa57_1 rfl) rfl ?_
      refine st (X.ldB rfl hB8 Try.underlying3 rfl (Chk.cells_len hds)) rfl ?_
      refine st (X.lss rfl rfl) rfl ?_
      refine Wn ?_
      refine tN ?_
      refine W_if rfl (fun h26 => ?_) (fun h26 => ?_)
      · first | replace h26 := of_decide_eq_true h26 | replace h26 := of_decide_eq_false (notT h26) | replace h26 := notT h26 | skip
        refine W_rs ?_
        refine sa rfl rfl ?_
        refine sa rfl rfl ?_
        refine Wn ?_
        refine tN ?_
        replace hR := hR.bel hpend
        replace hM := hM.bel hpend
        clear hpend
        refine W_ret (tR (bR (tR (tR (bR (tR ?_))))))
        exact (rTT rfl rfl rfl (dec_no (decode_neg hu (by rw [hq, any_drop _ hd, show negN d = true from decide_eq_true h26]; rfl)) hbw)).1
      · first | replace h26 := of_decide_eq_false h26 | replace h26 := of_decide_eq_true (notF h26) | replace h26 := notF h26 | skip
        have hno : negN d = false := decide_eq_false (by omega)
        refine W_skip ?_
        refine tN ?_
        refine W_drN (fun W_ => ∃ gx, gx = g8 ∧ Blk W_ gx 57 d.cells.toArray ∧ Blk W_ g 111 #[.map (some b)]) [0, 1, 2, 3, 4, 5, 6, 7, 8] [true, true, true, true, true, true, true, true, false] (by kernel_rfl) (by kernel_rfl) (⟨_, rfl, hB8.drew, hB.drew⟩) ?_
        obtain ⟨w6, hw_⟩ : ∃ w6 : World, w6 = World.drew w5 := ⟨_, rfl⟩
        rw [← hw_]
        have hb : Below w5.heap.size w5 w6 := by rw [hw_]; exact bdrew (Below.refl _ _)
        clear hw_
        have hS := hb
        replace hpend := bthen hpend hb
        replace hbw := bthen hbw hb
        replace hB := hB.bel hb
        replace hB8 := hB8.bel hb
        have hz_w6 := hb.size
        clear hb
        refine oY rfl (fun W_ hW_ => (X.move rfl)) rfl ?_
        refine oY rfl (fun W_ hW_ => (X.nilChk rfl)) rfl ?_
        refine oY rfl (fun W_ hW_ => (X.fa fa111_0 rfl)) rfl ?_
        refine oY rfl (fun W_ hW_ => (X.ldL rfl (by obtain ⟨gx, rfl, h1, h2⟩ := hW_; exact h2) Try.underlying108 rfl rfl)) rfl ?_
        refine oY rfl (fun W_ hW_ => (X.fa fa57_0 rfl)) rfl ?_
        refine oY rfl (fun W_ hW_ => (X.ldN (cs := d.sum.map bv) rfl Try.underlying36 rfl (by rw [List.length_map, hds]; exact siz36) (by obtain ⟨gx, rfl, h1, h2⟩ := hW_; exact deltaSum h1))) rfl ?_
        refine oY rfl (fun W_ hW_ => (X.fa fa57_1 rfl)) rfl ?_
        refine oY rfl (fun W_ hW_ => (X.ldB rfl (by obtain ⟨gx, rfl, h1, h2⟩ := hW_; exact h1) Try.underlying3 rfl (Chk.cells_len hds))) rfl ?_
        refine oL rfl (fun Q_ hQ_ hP_ => ?_)
        replace hR := hR.bel hpend
        replace hM := hM.bel hpend
        clear hpend
        refine smu keySum rfl ⟨d.sum, hds⟩ d.len rfl rfl Try.underlying108 hM (fun w7 hM_ hCm => ?_)
        replace hR := hR.chg hCm (hR.neMap hM)
        replace hB8 := hB8.chg hCm (hB8.neMap hM)
        replace hB := hB.chg hCm (hB.neMap hM)
        replace hbw := bset hbw hCm hbg
        have hz108 := hCm.size
        replace hM := hM_
        clear hCm hM_
        refine Wn (hQ_ _ _ (⟨_, rfl, hB8, hB⟩) ?_)
        clear hQ_ hP_ Q_
        refine oN ?_
        refine nN ?_
        refine bN ?_
        refine tN ?_
        refine W_reg ?_
        refine st (X.add64 rfl rfl (by omega)) rfl ?_
        refine sm rfl rfl ?_
        refine Wn ?_
        refine tN ⟨_, _, ?_, ⟨j + 1, mput m ⟨d.sum, hds⟩ d.len, rfl, rfl, by omega, by rw [hq, any_drop _ hd, hno]; rfl, hmx', hB, hM, hR, hbw⟩, ⟨rfl, rfl, rfl, rfl, trivial⟩⟩
        omega
    · first | replace h21 := of_decide_eq_false h21 | replace h21 := of_decide_eq_true (notF h21) | replace h21 := notF h21 | skip
      obtain rfl : j = L.length := by omega
      rw [List.drop_length] at hq
      rw [List.take_length] at hmx
      refine W_exit (tE (tE (bH ?_)))
      refine tN ?_
      refine W_rs ?_
      refine sm rfl rfl ?_
      refine sa rfl rfl ?_
      refine sa rfl rfl ?_
      refine Wn ?_
      refine tN ?_
      refine W_ret ?_
      exact (rTT rfl rfl rfl (dec_yes (decode_pos hu hq) ⟨hB, m, hM, hmx⟩ hgw hbg hgb hbw)).1
end Go.Proofs.Ytnagmpnpgekhfaa
