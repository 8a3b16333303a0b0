/- fan: number, numbered, the counts. -/
import Derived.Test.YtnagmpnpgekhfaaFan0
import Derived.Test.YtnagmpnpgekhfaaSums
import Derived.Test.YtnagmpnpgekhfaaRow2
import Derived.Test.YtnagmpnpgekhfaaAppend0
import Derived.Test.YtnagmpnpgekhfaaStillW
namespace Go.Proofs.Ytnagmpnpgekhfaa
open Go.RowKit
theorem fbs4 (a b c d : UInt8) (w : World) : (Instr.buildSlice 81 4 #[(0, bv a), (1, bv b), (2, bv c), (3, bv d)]).run Try.prog w = .ok (.slice (some ⟨w.heap.size, 0, none⟩) 4 4) (w.alloc (.cells #[bv a, bv b, bv c, bv d] 5)) := by kernel_rfl
theorem fnumber_any (v : Value) (s : List UInt8) (n : Int) (w : World) (hR : Row w 5 1 v s.length (s.map bv)) (hs : s.length ≤ 100000000) :
    Calls Try.prog 81 #[v, .int .i64 n] w fun e w' => ∃ v', e = .returned v' ∧ Row w' 5 1 v' (s.length + 4) ((s ++ four n).map bv) ∧ Chg (fun k => v.ownBlock = some k) w w' ∧ (v'.ownBlock = v.ownBlock ∨ ∃ k, v'.ownBlock = some k ∧ w.heap.size ≤ k) := by
  refine W_enter (args := [v, .int .i64 n]) 19 Try.func81 rfl rfl rfl ?_
  refine W_sub [(0, v), (1, .int .i64 n)] ?_ ⟨rfl, rfl, trivial⟩
  refine W_rs ?_
  refine sa rfl rfl ?_
  refine Wn ?_
  refine tN ?_
  refine W_rs ?_
  refine sm rfl rfl ?_
  refine sm rfl rfl ?_
  refine st (X.convI rfl Try.underlying3 Try.underlying5 (wb n)) rfl ?_
  refine sm rfl rfl ?_
  refine st (X.shr (q := 256) rfl rfl (by decide) (by decide) rfl rfl) rfl ?_
  refine st (X.convI rfl Try.underlying3 Try.underlying5 (wb _)) rfl ?_
  refine sm rfl rfl ?_
  refine st (X.shr (q := 65536) rfl rfl (by decide) (by decide) rfl rfl) rfl ?_
  refine st (X.convI rfl Try.underlying3 Try.underlying5 (wb _)) rfl ?_
  refine sm rfl rfl ?_
  refine st (X.shr (q := 16777216) rfl rfl (by decide) (by decide) rfl rfl) rfl ?_
  refine st (X.convI rfl Try.underlying3 Try.underlying5 (wb _)) rfl ?_
  refine sbs (ps := [(0, .tmp 7), (1, .tmp 10), (2, .tmp 13), (3, .tmp 16)]) 1 rfl (fbs4 _ _ _ _ _) (by simp [maxLen]) rfl rfl (fun g17 w1 hR17 hg17 hb => ?_)
  have hR1 := hR.bel hb
  refine sapp rfl rfl Try.underlying81 inf5 rfl (by decide) hR1 (hR17.reads.src Try.underlying81 (by intro z hz; simp [bv] at hz; rcases hz with rfl | rfl | rfl | rfl <;> rfl)) (by simp only [maxLen]; omega) (by omega) rfl (fun v' w2 hR' hC hv' => ?_)
  refine sa rfl rfl ?_
  refine Wn ?_
  refine tN ?_
  refine W_ret ?_
  refine (rT rfl rfl ⟨v', rfl, ?_, ?_, ?_⟩).1
  · rw [List.map_append]; exact hR'
  · exact (Chg.of_below hb _).trans hC (fun i _ h => h)
  · rcases hv' with h | h
    · exact .inl h
    · exact .inr ⟨_, h, hb.size⟩
theorem fnumbered_any (s : List UInt8) (i : Nat) (w : World) (hi : i + 4 ≤ s.length) (hs : s.length < 100000000) :
    Calls Try.prog 85 #[str s, .int .i64 i] w fun e w' => e = .returned (.int .i64 (num (s.drop i) : Nat)) ∧ Below w.heap.size w w' := by
  obtain ⟨a, ha⟩ : ∃ a, s.getD i 0 = a := ⟨_, rfl⟩
  obtain ⟨b, hb⟩ : ∃ a, s.getD (i + 1) 0 = a := ⟨_, rfl⟩
  obtain ⟨c, hc⟩ : ∃ a, s.getD (i + 2) 0 = a := ⟨_, rfl⟩
  obtain ⟨d, hd⟩ : ∃ a, s.getD (i + 3) 0 = a := ⟨_, rfl⟩
  have hn : num (s.drop i) = num4 a b c d := by rw [numAt, ha, hb, hc, hd]
  have la := lt_u8 a
  have lb := lt_u8 b
  have lc := lt_u8 c
  have ld := lt_u8 d
  have o1 := or_add a.toNat b.toNat 8 (by omega) (by omega)
  have o2 := or_add (a.toNat + b.toNat * 256) c.toNat 16 (by omega) (by omega)
  have o3 := or_add (a.toNat + b.toNat * 256 + c.toNat * 65536) d.toNat 24 (by omega) (by omega)
  have hz : ((a.toNat + b.toNat * 256 + c.toNat * 65536 + d.toNat * 16777216 : Nat) : Int) = ((num4 a b c d : Nat) : Int) := by
    unfold num4
    omega
  refine W_enter (args := [str s, .int .i64 i]) 30 Try.func85 rfl rfl rfl ?_
  refine W_sub [(0, str s), (1, .int .i64 i)] ?_ ⟨rfl, rfl, trivial⟩
  have hbw := Below.refl w.heap.size w
  refine W_rs ?_
  refine sa rfl rfl ?_
  refine Wn ?_
  refine tN ?_
  refine W_drsN (fun _ => True) [0, 1, 2, 3, 4, 5, 6, 7, 8, 9, 10, 11, 12, 13, 14, 15, 16, 17, 18, 19, 20, 21, 22, 23, 24, 25] [true, true, true, true, true, true, true, true, true, true, true, true, true, true, true, true, true, true, true, true, true, true, true, true, true, true] (by kernel_rfl) (by kernel_rfl) (trivial) ?_
  obtain ⟨w1, hw_⟩ : ∃ w1 : World, w1 = World.drew w := ⟨_, rfl⟩
  rw [← hw_]
  have hb : Below w.heap.size w w1 := by rw [hw_]; exact bdrew (Below.refl _ _)
  clear hw_
  have hS : True := trivial
  replace hbw := bthen hbw hb
  have hz_w1 := hb.size
  clear hb
  refine oY rfl (fun W_ hW_ => (X.move rfl)) rfl ?_
  refine oY rfl (fun W_ hW_ => (X.move rfl)) rfl ?_
  refine oY rfl (fun W_ hW_ => (X.idxS (q := i) rfl rfl Try.underlying9 rfl (by omega))) rfl ?_
  refine oY rfl (fun W_ hW_ => (X.convI (z := (a.toNat : Int)) rfl Try.underlying5 Try.underlying3 (by rw [ha]; exact w64 (by omega)))) rfl ?_
  refine oY rfl (fun W_ hW_ => (X.move rfl)) rfl ?_
  refine oY rfl (fun W_ hW_ => (X.move rfl)) rfl ?_
  refine oY rfl (fun W_ hW_ => (X.add64 rfl rfl (by omega))) rfl ?_
  refine oY rfl (fun W_ hW_ => (X.idxS (q := i + 1) rfl rfl Try.underlying9 rfl (by omega))) rfl ?_
  refine oY rfl (fun W_ hW_ => (X.convI (z := (b.toNat : Int)) rfl Try.underlying5 Try.underlying3 (by rw [hb]; exact w64 (by omega)))) rfl ?_
  refine oY rfl (fun W_ hW_ => (X.shl (q := 256) (z := (b.toNat : Int) * 256) rfl rfl (by decide) (by decide) rfl rfl (w64 (by omega)))) rfl ?_
  refine oY rfl (fun W_ hW_ => (X.bits (by simp) rfl rfl o1)) rfl ?_
  refine oY rfl (fun W_ hW_ => (X.move rfl)) rfl ?_
  refine oY rfl (fun W_ hW_ => (X.move rfl)) rfl ?_
  refine oY rfl (fun W_ hW_ => (X.add64 rfl rfl (by omega))) rfl ?_
  refine oY rfl (fun W_ hW_ => (X.idxS (q := i + 2) rfl rfl Try.underlying9 rfl (by omega))) rfl ?_
  refine oY rfl (fun W_ hW_ => (X.convI (z := (c.toNat : Int)) rfl Try.underlying5 Try.underlying3 (by rw [hc]; exact w64 (by omega)))) rfl ?_
  refine oY rfl (fun W_ hW_ => (X.shl (q := 65536) (z := (c.toNat : Int) * 65536) rfl rfl (by decide) (by decide) rfl rfl (w64 (by omega)))) rfl ?_
  refine oY rfl (fun W_ hW_ => (X.bits (by simp) rfl rfl o2)) rfl ?_
  refine oY rfl (fun W_ hW_ => (X.move rfl)) rfl ?_
  refine oY rfl (fun W_ hW_ => (X.move rfl)) rfl ?_
  refine oY rfl (fun W_ hW_ => (X.add64 rfl rfl (by omega))) rfl ?_
  refine oY rfl (fun W_ hW_ => (X.idxS (q := i + 3) rfl rfl Try.underlying9 rfl (by omega))) rfl ?_
  refine oY rfl (fun W_ hW_ => (X.convI (z := (d.toNat : Int)) rfl Try.underlying5 Try.underlying3 (by rw [hd]; exact w64 (by omega)))) rfl ?_
  refine oY rfl (fun W_ hW_ => (X.shl (q := 16777216) (z := (d.toNat : Int) * 16777216) rfl rfl (by decide) (by decide) rfl rfl (w64 (by omega)))) rfl ?_
  refine oY rfl (fun W_ hW_ => (X.bits (by simp) rfl rfl o3)) rfl ?_
  refine oY rfl (fun W_ hW_ => (X.assign rfl)) rfl ?_
  refine oN ?_
  refine nN ?_
  refine W_ret ?_
  refine (rT rfl rfl ⟨?_, hbw⟩).1
  rw [hn, ← hz]
/- ---------- the counts ---------- -/
def CntTo (cs : Array Value) (l : List Ent) : Prop := cs.size = 256 ∧ ∀ b, b < 256 → cs[b]? = some (.int .i64 ((bucketM l b).length : Nat))
theorem bucket_snoc (l : List Ent) (x : Ent) (b : Nat) : bucketM (l ++ [x]) b = bucketM l b ++ (if hd x = b then [x] else []) := by
  unfold bucketM
  rw [List.filter_append]
  congr 1
  by_cases h : hd x = b
  · rw [if_pos h]; simp [h]
  · rw [if_neg h]; simp [h]
theorem CntTo.next {cs : Array Value} {l : List Ent} (h : CntTo cs l) (x : Ent) : CntTo (cs.setIfInBounds (hd x) (.int .i64 (((bucketM l (hd x)).length : Nat) + 1))) (l ++ [x]) := by
  refine ⟨by simpa using h.1, fun b hb => ?_⟩
  rw [Array.getElem?_setIfInBounds, bucket_snoc]
  by_cases e : hd x = b
  · subst e
    rw [if_pos rfl, if_pos (by rw [h.1]; exact hb), if_pos rfl]
    simp
  · rw [if_neg e, if_neg e, List.append_nil]
    exact h.2 b hb
theorem cnt_zero : CntTo (List.replicate 256 (Value.int .i64 0)).toArray [] := ⟨rep_size 256 _, fun b hb => by rw [List.getElem?_toArray, List.getElem?_replicate, if_pos hb]; rfl⟩
def FanTo (cs : Array Value) (l : List Ent) (k : Nat) : Prop := cs.size = 256 ∧ (∀ b, b < k → b < 256 → cs[b]? = some (.int .i64 (cntM l b : Nat))) ∧ ∀ b, k ≤ b → b < 256 → cs[b]? = some (.int .i64 ((bucketM l b).length : Nat))
theorem CntTo.fan {cs : Array Value} {l : List Ent} (h : CntTo cs l) : FanTo cs l 1 := ⟨h.1, fun b hb _ => by
  obtain rfl : b = 0 := by omega
  rw [cnt_0]
  exact h.2 0 (by omega), fun b _ hb => h.2 b hb⟩
theorem FanTo.next {cs : Array Value} {l : List Ent} {k : Nat} (h : FanTo cs l k) (hk : k < 256) (h1 : 1 ≤ k) : FanTo (cs.setIfInBounds k (.int .i64 (((bucketM l k).length : Nat) + (cntM l (k - 1) : Nat)))) l (k + 1) := by
  refine ⟨by simpa using h.1, fun b hb hb2 => ?_, fun b hb hb2 => ?_⟩
  · rw [Array.getElem?_setIfInBounds]
    by_cases e : k = b
    · subst e
      rw [if_pos rfl, if_pos (by rw [h.1]; exact hk)]
      have := cnt_next l (k - 1)
      rw [show k - 1 + 1 = k by omega] at this
      congr 2
      omega
    · rw [if_neg e]
      exact h.2.1 b (by omega) hb2
  · rw [Array.getElem?_setIfInBounds, if_neg (by omega)]
    exact h.2.2 b (by omega) hb2
def cntV (l : List Ent) : Array Value := ((List.range 256).map fun b => Value.int .i64 (cntM l b : Nat)).toArray
theorem cntV_size (l : List Ent) : (cntV l).size = 256 := by simp [cntV]
theorem cntV_at (l : List Ent) (b : Nat) (h : b < 256) : (cntV l)[b]? = some (.int .i64 (cntM l b : Nat)) := by simp [cntV, h]
theorem cntV_one (l : List Ent) : (cntV l).toList.all (·.oneCell') = true := by simp [cntV, Value.oneCell']
theorem FanTo.all {cs : Array Value} {l : List Ent} (h : FanTo cs l 256) : cs = cntV l := by
  apply Array.ext_getElem?
  intro k
  by_cases hk : k < 256
  · rw [h.2.1 k hk hk, cntV_at l k hk]
  · rw [Array.getElem?_eq_none (by rw [h.1]; omega), Array.getElem?_eq_none (by rw [cntV_size]; omega)]
theorem Ent.cells_one (e : Ent) : e.cells.toArray.toList.all (·.oneCell') = true := by
  simp [Ent.cells, Value.oneCell', bv]
theorem Ent.cell0 {e : Ent} (h : e.sum.length = 32) : e.cells.toArray[0 + 0 * 1]? = some (.int .u8 (hd e : Nat)) := by
  unfold Ent.cells hd
  cases hs : e.sum with
  | nil => simp [hs] at h
  | cons c t => rfl
/-- entries, read -/
abbrev EntsAt (w : World) (v : Value) (l : List Ent) : Prop := Reads w 35 v l.length (l.flatMap Ent.cells)
theorem EntsAt.range {w : World} {g o c : Nat} {l : List Ent} (h : EntsAt w (.slice (some ⟨g, o, none⟩) l.length c) l) (h32 : S32 l) {j : Nat} {x : Ent} (hx : l[j]? = some x) : w.rangeAt g (o + j * 35) x.cells := h.rec_ (fun a ha => Ent.cells_length (h32 a ha)) hx
theorem EntsAt.sum {w : World} {g o c : Nat} {l : List Ent} (h : EntsAt w (.slice (some ⟨g, o, none⟩) l.length c) l) (h32 : S32 l) {j : Nat} {x : Ent} (hx : l[j]? = some x) : w.rangeAt g (o + j * 35 + 0) (x.sum.map bv) := fun i v hv => by
  have hi := (List.getElem?_eq_some_iff.1 hv).1
  refine h.range h32 hx i v ?_
  unfold Ent.cells
  rw [List.getElem?_append_left hi, hv]
theorem fan_any (v : Value) (l : List Ent) (w : World) (h : EntsAt w v l) (h32 : S32 l) (hl : l.length ≤ 1000000) :
    Calls Try.prog 80 #[.agg #[v]] w fun e w' => e = .returned (.agg (cntV l)) ∧ Below w.heap.size w w' := by
  obtain ⟨a, cp, rfl, hn, hcp⟩ := h.shape
  refine W_enter (args := [.agg #[.slice a l.length cp]]) 36 Try.func80 rfl rfl rfl ?_
  refine W_sub [(0, .agg #[.slice a l.length cp])] ?_ ⟨rfl, trivial⟩
  have hbw := Below.refl w.heap.size w
  refine W_rs ?_
  refine sboxA rfl rfl (fun g1 w1 hB1 hg1 hb hl1 => ?_)
  replace hbw := bthen hbw hb
  have hz_w1 := hb.size
  clear hb
  refine salA inf124 rfl (fun g2 w2 hB2 hg2 hb hl2 => ?_)
  replace hbw := bthen hbw hb
  replace hB1 := hB1.bel hb
  have hz_w2 := hb.size
  clear hb
  refine Wn ?_
  refine tN ?_
  refine W_rs ?_
  refine salA inf124 rfl (fun g3 w3 hB3 hg3 hb hl3 => ?_)
  replace hbw := bthen hbw hb
  replace hB1 := hB1.bel hb
  replace hB2 := hB2.bel hb
  have hz_w3 := hb.size
  clear hb
  refine Wn ?_
  refine tN ?_
  refine W_seq ?_
  refine W_rs ?_
  refine st (X.fa fa71_0 rfl) rfl ?_
  refine st (X.ldL rfl hB1 Try.underlying69 rfl rfl) rfl ?_
  refine st (X.lenL rfl rfl Try.underlying69) rfl ?_
  refine sm rfl rfl ?_
  refine Wn ?_
  refine tN ?_
  refine W_block ?_
  refine W_lp (fun nw4_ lw4_ w4 => ∃ j : Nat, ∃ cs : Array Value, nw4_ = l.length - j ∧ lw4_ = ([(2, .pointer (some ⟨g2, 0, none⟩)), (3, .pointer (some ⟨g3, 0, none⟩)), (8, .slice a l.length cp), (9, .int .i64 l.length), (10, .int .i64 j)] : Env) ∧ (j ≤ l.length) ∧ (CntTo cs (l.take j)) ∧ (Blk w4 g2 124 (List.replicate 256 (.int .i64 0)).toArray) ∧ (Blk w4 g3 124 cs) ∧ (Below w.heap.size w w4)) _ ⟨_, ⟨0, _, rfl, rfl, by omega, cnt_zero, hB2, hB3, hbw⟩, ⟨rfl, rfl, rfl, rfl, rfl, trivial⟩⟩ ?_
  clear hB2 hB3 hbw
  rintro nw4_ lw4_ w4 ⟨j, cs, rfl, rfl, hj, hcs, hB2, hB3, hbw⟩
  have hz_w4 := hbw.size
  have hlt_hB2_w4 := hB2.lt
  have hlt_hB3_w4 := hB3.lt
  refine W_rs ?_
  refine st (X.lss rfl rfl) rfl ?_
  refine Wn ?_
  refine tN ?_
  refine W_seq ?_
  refine W_if rfl (fun h11 => ?_) (fun h11 => ?_)
  · first | replace h11 := of_decide_eq_true h11 | replace h11 := of_decide_eq_false (notT h11) | replace h11 := notT h11 | skip
    obtain ⟨x, hx⟩ : ∃ x, l[j]? = some x := ⟨_, List.getElem?_eq_getElem (by omega)⟩
    obtain ⟨g1, o1, c', hv, hg1⟩ := (h.bel hbw).some_ (by omega)
    injection hv with e1 _ e3
    subst e1 e3
    have hxs := h32 x (List.mem_of_getElem? hx)
    have hdl : hd x < 256 := (x.sum.headD 0).toNat_lt
    have hbl := Nat.le_trans (List.length_filter_le (fun e => decide (hd e = hd x)) (l.take j)) (List.length_take_le j l)
    refine W_skip ?_
    refine tN ?_
    refine W_seq ?_
    refine W_block ?_
    refine W_rs ?_
    refine st (X.idxA rfl rfl Try.underlying69 siz90 rfl (by omega)) rfl ?_
    refine st (X.ldN (cs := x.cells) rfl Try.underlying90 rfl (by rw [Ent.cells_length hxs]; exact siz90) (EntsAt.range (h.bel hbw) h32 hx)) rfl ?_
    refine salA inf90 rfl (fun g5 w5 hB5 hg5 hb hl5 => ?_)
    replace hbw := bthen hbw hb
    replace hB2 := hB2.bel hb
    replace hB3 := hB3.bel hb
    have hz_w5 := hb.size
    clear hb
    refine ssBN rfl rfl hB5 (by rw [Ent.size hxs]; exact siz90) (by rw [Ent.size hxs]; rfl) (Ent.cells_one x) (fun w6 hB_ hc_ => ?_)
    replace hB5 := hB_
    clear hB_
    replace hB2 := hB2.chg hc_ (by first | (show ¬ _ = _; omega) | (intro k_ hk_; simp [Value.ownBlock] at hk_; subst hk_; show ¬ _ = _; omega))
    replace hB3 := hB3.chg hc_ (by first | (show ¬ _ = _; omega) | (intro k_ hk_; simp [Value.ownBlock] at hk_; subst hk_; show ¬ _ = _; omega))
    replace hbw := bset hbw hc_ (by omega)
    have hz_w6 := hc_.size
    clear hc_
    refine Wn ?_
    refine tN ?_
    refine W_reg ?_
    refine st (X.fa fa90_0 rfl) rfl ?_
    refine st (X.idxArr (j := 0) rfl rfl Try.underlying36 siz5 rfl (by omega)) rfl ?_
    refine st (X.ldB rfl hB5 Try.underlying5 rfl (Ent.cell0 hxs)) rfl ?_
    refine st (X.idxArr rfl rfl Try.underlying124 siz3 rfl hdl) rfl ?_
    refine st (X.ldB rfl hB3 Try.underlying3 rfl (by rw [Nat.zero_add, Nat.mul_one]; exact hcs.2 _ hdl)) rfl ?_
    refine st (X.add rfl rfl (w64 (by unfold bucketM; omega))) rfl ?_
    refine st (X.idxArr rfl rfl Try.underlying124 siz3 rfl hdl) rfl ?_
    refine ssB rfl rfl hB3 siz3 rfl (by rw [hcs.1]; omega) (fun w7 hB_ hc_ => ?_)
    rw [Nat.zero_add, Nat.mul_one] at hB_
    replace hB2 := hB2.chg hc_ (by show ¬ _ = _; omega)
    replace hB3 := hB_
    replace hbw := bset hbw hc_ (by omega)
    clear hB_ hc_
    refine Wn ?_
    refine bN ?_
    refine tN ?_
    refine W_reg ?_
    refine st (X.add64 rfl rfl (by omega)) rfl ?_
    refine sm rfl rfl ?_
    refine Wn ?_
    refine tN ⟨_, _, ?_, ⟨j + 1, _, rfl, rfl, by omega, by rw [take_next' hx]; exact hcs.next x, hB2, hB3, hbw⟩, ⟨rfl, rfl, rfl, rfl, rfl, trivial⟩⟩
    omega
  · first | replace h11 := of_decide_eq_false h11 | replace h11 := of_decide_eq_true (notF h11) | replace h11 := notF h11 | skip
    obtain rfl : j = l.length := by omega
    rw [List.take_length] at hcs
    have hf := hcs.fan
    clear hcs
    refine W_exit (tE (tE (bH ?_)))
    refine tN ?_
    refine W_seq ?_
    refine W_rs ?_
    refine sa rfl rfl ?_
    refine Wn ?_
    refine tN ?_
    refine W_block ?_
    refine W_lp (fun nw8_ lw8_ w8 => ∃ k : Nat, ∃ cs : Array Value, nw8_ = 256 - k ∧ lw8_ = ([(2, .pointer (some ⟨g2, 0, none⟩)), (3, .pointer (some ⟨g3, 0, none⟩)), (6, .int .i64 k)] : Env) ∧ (k ≤ 256) ∧ (1 ≤ k) ∧ (FanTo cs l k) ∧ (Blk w8 g2 124 (List.replicate 256 (.int .i64 0)).toArray) ∧ (Blk w8 g3 124 cs) ∧ (Below w.heap.size w w8)) _ ⟨_, ⟨1, _, rfl, rfl, by omega, by omega, hf, hB2, hB3, hbw⟩, ⟨rfl, rfl, rfl, trivial⟩⟩ ?_
    clear hf hB2 hB3 hbw
    rintro nw8_ lw8_ w8 ⟨k, cs, rfl, rfl, hk, hk1, hf, hB2, hB3, hbw⟩
    have hz_w8 := hbw.size
    have hlt_hB2_w8 := hB2.lt
    have hlt_hB3_w8 := hB3.lt
    refine W_seq ?_
    refine W_rs ?_
    refine sm rfl rfl ?_
    refine st (X.lss rfl rfl) rfl ?_
    refine Wn ?_
    refine tN ?_
    refine W_if rfl (fun h23 => ?_) (fun h23 => ?_)
    · first | replace h23 := of_decide_eq_true h23 | replace h23 := of_decide_eq_false (notT h23) | replace h23 := notT h23 | skip
      have hc1 := cnt_le l (k - 1)
      have hc2 : (bucketM l k).length ≤ l.length := List.length_filter_le _ _
      have hfs := hf.1
      refine W_skip ?_
      refine tN ?_
      refine W_seq ?_
      refine W_block ?_
      refine W_still 9 (by kernel_rfl) (by kernel_rfl) ?_
      obtain ⟨w9, hw_⟩ : ∃ w9 : World, w9 = World.drew w8 := ⟨_, rfl⟩
      rw [← hw_]
      have hb : Below w8.heap.size w8 w9 := by rw [hw_]; exact bdrew (Below.refl _ _)
      clear hw_
      replace hbw := bthen hbw hb
      replace hB2 := hB2.bel hb
      replace hB3 := hB3.bel hb
      have hz_w9 := hb.size
      clear hb
      refine hY (X.move rfl) rfl ?_
      refine hY (X.idxArr rfl rfl Try.underlying124 siz3 rfl (by omega)) rfl ?_
      refine hY (X.ldB rfl hB3 Try.underlying3 rfl (by rw [Nat.zero_add, Nat.mul_one]; exact hf.2.2 k (Nat.le_refl _) (by omega))) rfl ?_
      refine hY (X.move rfl) rfl ?_
      refine hY (X.sub64 rfl rfl (by omega)) rfl ?_
      refine hY (X.idxArr (j := k - 1) rfl rfl Try.underlying124 siz3 (by omega) (by omega)) rfl ?_
      refine hY (X.ldB rfl hB3 Try.underlying3 rfl (by rw [Nat.zero_add, Nat.mul_one]; exact hf.2.1 (k - 1) (by omega) (by omega))) rfl ?_
      refine hY (X.add rfl rfl (w64 (by omega))) rfl ?_
      refine hY (X.idxArr rfl rfl Try.underlying124 siz3 rfl (by omega)) rfl ?_
      refine hN ?_
      refine ssB rfl rfl hB3 siz3 rfl (by rw [hfs]; omega) (fun w10 hB_ hc_ => ?_)
      rw [Nat.zero_add, Nat.mul_one] at hB_
      replace hB2 := hB2.chg hc_ (by show ¬ _ = _; omega)
      replace hB3 := hB_
      replace hbw := bset hbw hc_ (by omega)
      clear hB_ hc_
      refine Wn ?_
      refine bN ?_
      refine tN ?_
      refine W_reg ?_
      refine sm rfl rfl ?_
      refine st (X.add64 rfl rfl (by omega)) rfl ?_
      refine sa rfl rfl ?_
      refine Wn ?_
      refine tN ⟨_, _, ?_, ⟨k + 1, _, rfl, rfl, by omega, by omega, hf.next (by omega) hk1, hB2, hB3, hbw⟩, ⟨rfl, rfl, rfl, trivial⟩⟩
      omega
    · first | replace h23 := of_decide_eq_false h23 | replace h23 := of_decide_eq_true (notF h23) | replace h23 := notF h23 | skip
      obtain rfl : k = 256 := by omega
      obtain rfl := hf.all
      refine W_exit (tE (tE (bH ?_)))
      refine tN ?_
      refine W_rs ?_
      refine st (X.ldBN rfl hB3 Try.underlying124 rfl (by rw [cntV_size]; exact siz124)) rfl ?_
      refine ssBN rfl rfl hB2 (by rw [cntV_size]; exact siz124) (by rw [cntV_size]; exact rep_size 256 _) (cntV_one l) (fun w11 hB_ hc_ => ?_)
      replace hB2 := hB_
      clear hB_
      replace hB3 := hB3.chg hc_ (by first | (show ¬ _ = _; omega) | (intro k_ hk_; simp [Value.ownBlock] at hk_; subst hk_; show ¬ _ = _; omega))
      replace hbw := bset hbw hc_ (by omega)
      have hz_w11 := hc_.size
      clear hc_
      refine Wn ?_
      refine tN ?_
      refine W_ret ?_
      exact (rC rfl rfl hB2 Try.underlying124 rfl (by rw [cntV_size]; exact siz124) ⟨rfl, hbw⟩).1
end Go.Proofs.Ytnagmpnpgekhfaa
