/- refs: numbered, Pack, Unpack. -/
import Derived.Test.YtnagmpnpgekhfaaRefs2
import Derived.Test.YtnagmpnpgekhfaaOps4
namespace Go.Proofs.Ytnagmpnpgekhfaa
open Go.RowKit
theorem wi32 (n : Nat) (h : n < 4294967296) : IntKind.i32.wrap (n : Int) = sgn n := by
  rw [IntKind.wrap_i32]
  unfold sgn
  split <;> omega
theorem numbered_any (s : List UInt8) (i : Nat) (w : World) (hi : i + 4 ≤ s.length) (hs : s.length < 1000000) :
    Calls Try.prog 69 #[str s, .int .i64 i] w fun e w' => e = .returned (.int .i64 (sgn (num (s.drop i)))) ∧ Below w.heap.size w w' := by
  obtain ⟨a, ha⟩ : ∃ a, s.getD i 0 = a := ⟨_, rfl⟩
  obtain ⟨b, hb⟩ : ∃ a, s.getD (i + 1) 0 = a := ⟨_, rfl⟩
  obtain ⟨c, hc⟩ : ∃ a, s.getD (i + 2) 0 = a := ⟨_, rfl⟩
  obtain ⟨d, hd⟩ : ∃ a, s.getD (i + 3) 0 = a := ⟨_, rfl⟩
  have hn : num (s.drop i) = num4 a b c d := by rw [numAt, ha, hb, hc, hd]
  have la := lt_u8 a
  have lb := lt_u8 b
  have lc := lt_u8 c
  have ld := lt_u8 d
  have o1 := or_add32 a.toNat b.toNat 8 (by omega) (by omega)
  have o2 := or_add32 (a.toNat + b.toNat * 256) c.toNat 16 (by omega) (by omega)
  have o3 := or_add32 (a.toNat + b.toNat * 256 + c.toNat * 65536) d.toNat 24 (by omega) (by omega)
  have w32n : ∀ n : Nat, n < 4294967296 → IntKind.u32.wrap (n : Int) = (n : Int) := fun n h => by rw [w32]; omega
  have hz : IntKind.i32.wrap ((a.toNat + b.toNat * 256 + c.toNat * 65536 + d.toNat * 16777216 : Nat) : Int) = sgn (num4 a b c d) := by
    rw [wi32 _ (by omega)]
    congr 1
    unfold num4
    omega
  have hr := sgn_range (num4 a b c d) (num4_lt a b c d)
  refine W_enter (args := [str s, .int .i64 i]) 32 Try.func69 rfl rfl rfl ?_
  refine W_sub [(0, str s), (1, .int .i64 i)] ?_ ⟨rfl, rfl, trivial⟩
  have hbw := Below.refl w.heap.size w
  refine W_rs ?_
  refine sa rfl rfl ?_
  refine Wn ?_
  refine tN ?_
  refine W_drsN (fun _ => True) [0, 1, 2, 3, 4, 5, 6, 7, 8, 9, 10, 11, 12, 13, 14, 15, 16, 17, 18, 19, 20, 21, 22, 23, 24, 25, 26, 27] [true, true, true, true, true, true, true, true, true, true, true, true, true, true, true, true, true, true, true, true, true, true, true, true, true, true, true, true] (by kernel_rfl) (by kernel_rfl) (trivial) ?_
  obtain ⟨w1, hw_⟩ : ∃ w1 : World, w1 = World.drew w := ⟨_, rfl⟩
  rw [← hw_]
  have hb : Below w.heap.size w w1 := by rw [hw_]; exact bdrew (Below.refl _ _)
  clear hw_
  have hS : True := trivial
  replace hbw := bthen hbw hb
  have hz_w1 := hb.size
  clear hb
  refine oY rfl (fun W_ hW_ => (X.move rfl)) rfl ?_
  refine oY rfl (fun W_ hW_ => (X.move rfl)) rfl ?_
  refine oY rfl (fun W_ hW_ => (X.idxS (q := i) rfl rfl Try.underlying9 rfl (by omega))) rfl ?_
  refine oY rfl (fun W_ hW_ => (X.convI (z := (a.toNat : Int)) rfl Try.underlying5 Try.underlying114 (by rw [ha]; exact w32n _ (by omega)))) rfl ?_
  refine oY rfl (fun W_ hW_ => (X.move rfl)) rfl ?_
  refine oY rfl (fun W_ hW_ => (X.move rfl)) rfl ?_
  refine oY rfl (fun W_ hW_ => (X.add64 rfl rfl (by omega))) rfl ?_
  refine oY rfl (fun W_ hW_ => (X.idxS (q := i + 1) rfl rfl Try.underlying9 rfl (by omega))) rfl ?_
  refine oY rfl (fun W_ hW_ => (X.convI (z := (b.toNat : Int)) rfl Try.underlying5 Try.underlying114 (by rw [hb]; exact w32n _ (by omega)))) rfl ?_
  refine oY rfl (fun W_ hW_ => (X.shl (q := 256) (z := (b.toNat : Int) * 256) rfl rfl (by decide) (by decide) rfl rfl (by rw [w32]; omega))) rfl ?_
  refine oY rfl (fun W_ hW_ => (X.bits (by simp) rfl rfl o1)) rfl ?_
  refine oY rfl (fun W_ hW_ => (X.move rfl)) rfl ?_
  refine oY rfl (fun W_ hW_ => (X.move rfl)) rfl ?_
  refine oY rfl (fun W_ hW_ => (X.add64 rfl rfl (by omega))) rfl ?_
  refine oY rfl (fun W_ hW_ => (X.idxS (q := i + 2) rfl rfl Try.underlying9 rfl (by omega))) rfl ?_
  refine oY rfl (fun W_ hW_ => (X.convI (z := (c.toNat : Int)) rfl Try.underlying5 Try.underlying114 (by rw [hc]; exact w32n _ (by omega)))) rfl ?_
  refine oY rfl (fun W_ hW_ => (X.shl (q := 65536) (z := (c.toNat : Int) * 65536) rfl rfl (by decide) (by decide) rfl rfl (by rw [w32]; omega))) rfl ?_
  refine oY rfl (fun W_ hW_ => (X.bits (by simp) rfl rfl o2)) rfl ?_
  refine oY rfl (fun W_ hW_ => (X.move rfl)) rfl ?_
  refine oY rfl (fun W_ hW_ => (X.move rfl)) rfl ?_
  refine oY rfl (fun W_ hW_ => (X.add64 rfl rfl (by omega))) rfl ?_
  refine oY rfl (fun W_ hW_ => (X.idxS (q := i + 3) rfl rfl Try.underlying9 rfl (by omega))) rfl ?_
  refine oY rfl (fun W_ hW_ => (X.convI (z := (d.toNat : Int)) rfl Try.underlying5 Try.underlying114 (by rw [hd]; exact w32n _ (by omega)))) rfl ?_
  refine oY rfl (fun W_ hW_ => (X.shl (q := 16777216) (z := (d.toNat : Int) * 16777216) rfl rfl (by decide) (by decide) rfl rfl (by rw [w32]; omega))) rfl ?_
  refine oY rfl (fun W_ hW_ => (X.bits (by simp) rfl rfl o3)) rfl ?_
  refine oY rfl (fun W_ hW_ => (X.convI (z := sgn (num4 a b c d)) rfl Try.underlying114 Try.underlying21 hz)) rfl ?_
  refine oY rfl (fun W_ hW_ => (X.convI (z := sgn (num4 a b c d)) rfl Try.underlying21 Try.underlying3 (w64 (by omega)))) rfl ?_
  refine oY rfl (fun W_ hW_ => (X.assign rfl)) rfl ?_
  refine oN ?_
  refine nN ?_
  refine W_ret ?_
  exact (rT rfl rfl ⟨by rw [hn], hbw⟩).1
def okOf {α : Type} (z : α) : Except Int α → α
  | .ok x => x
  | .error _ => z
def errO {α : Type} : Except Int α → Int
  | .ok _ => 0
  | .error k => k
theorem may_tame {l : List Chk} (h : mayM l = 0) : Tame l ∧ l.length ≤ 16000 := ⟨fun c hc => by have := (mayM_ok h).2 c hc; omega, (mayM_ok h).1⟩
theorem Pack_any (v : Value) (l : List Chk) (w : World) (h : ChksAt w v l) : Calls Try.prog 19 #[v] w fun e w' => e = .returned (.tuple #[str (okOf [] (packM l)), .int .i64 (errO (packM l))]) ∧ Below w.heap.size w w' := by
  refine W_enter (args := [v]) 17 Try.func19 rfl rfl rfl ?_
  refine W_sub [(0, v)] ?_ ⟨rfl, trivial⟩
  have hbw := Below.refl w.heap.size w
  refine W_rs ?_
  refine sa rfl rfl ?_
  refine sa rfl rfl ?_
  refine Wn ?_
  refine tN ?_
  refine W_seq ?_
  refine W_rs ?_
  refine sm rfl rfl ?_
  refine sc _ Try.func61 rfl (by kernel_rfl) rfl rfl ((may_any v l _ (h.bel hbw)).mono ?_)
  rintro e_ w1 ⟨rfl, hb⟩
  refine cR ?_
  replace hbw := bthen hbw hb
  have hz_w1 := hb.size
  clear hb
  refine sa rfl rfl ?_
  refine Wn ?_
  refine tN ?_
  refine W_rs ?_
  refine sm rfl rfl ?_
  refine st (X.neq rfl rfl) rfl ?_
  refine Wn ?_
  refine tN ?_
  refine W_if rfl (fun h8 => ?_) (fun h8 => ?_)
  · first | replace h8 := of_decide_eq_true h8 | replace h8 := of_decide_eq_false (notT h8) | replace h8 := notT h8 | skip
    refine W_rs ?_
    refine sm rfl rfl ?_
    refine sa rfl rfl ?_
    refine sa rfl rfl ?_
    refine Wn ?_
    refine tN ?_
    refine W_ret (tR ?_)
    refine (rTT rfl rfl rfl ⟨?_, hbw⟩).1
    rw [show packM l = .error (mayM l) by unfold packM; rw [if_pos h8]]; rfl
  · first | replace h8 := of_decide_eq_false h8 | replace h8 := of_decide_eq_true (notF h8) | replace h8 := notF h8 | skip
    have h80 : mayM l = 0 := Classical.not_not.1 h8
    obtain ⟨htm, htl⟩ := may_tame h80
    refine W_skip ?_
    refine tN ?_
    refine W_seq ?_
    refine W_rs ?_
    refine sm rfl rfl ?_
    refine sc _ Try.func23 rfl (by kernel_rfl) rfl rfl ((Net_any v l _ (h.bel hbw) (by omega) htm).mono ?_)
    rintro e_ w2 ⟨v', rfl, hR, hO, hb⟩
    refine cR ?_
    replace hbw := bthen hbw hb
    have hz_w2 := hb.size
    clear hb
    refine sm rfl rfl ?_
    refine sc _ Try.func62 rfl (by kernel_rfl) rfl rfl ((EqualDeltas_any v' v (netM l) l _ ⟨hR.reads, netM_sum32 h.2⟩ (h.bel hbw)).mono ?_)
    rintro e_ w3 ⟨rfl, hb⟩
    refine cR ?_
    have hpend := hb
    replace hbw := bthen hbw hb
    have hz_w3 := hb.size
    clear hb
    refine st (X.not rfl) rfl ?_
    refine Wn ?_
    refine tN ?_
    refine W_if rfl (fun h14 => ?_) (fun h14 => ?_)
    · first | replace h14 := of_decide_eq_true h14 | replace h14 := of_decide_eq_false (notT h14) | replace h14 := notT h14 | skip
      refine W_rs ?_
      refine sa rfl rfl ?_
      refine sa rfl rfl ?_
      refine Wn ?_
      refine tN ?_
      replace hR := hR.bel hpend
      clear hpend
      refine W_ret (tR ?_)
      refine (rTT rfl rfl rfl ⟨?_, hbw⟩).1
      rw [show packM l = .error 18 by unfold packM; rw [if_neg h8, if_neg h14]]; rfl
    · first | replace h14 := of_decide_eq_false h14 | replace h14 := of_decide_eq_true (notF h14) | replace h14 := notF h14 | skip
      refine W_skip ?_
      refine tN ?_
      refine W_rs ?_
      refine sm rfl rfl ?_
      refine sc _ Try.func63 rfl (by kernel_rfl) rfl rfl ((packed_any v l _ (h.bel hbw) (by omega)).mono ?_)
      rintro e_ w4 ⟨rfl, hb⟩
      refine cR ?_
      replace hpend := bthen hpend hb
      replace hbw := bthen hbw hb
      have hz_w4 := hb.size
      clear hb
      refine sa rfl rfl ?_
      refine sa rfl rfl ?_
      refine Wn ?_
      refine tN ?_
      replace hR := hR.bel hpend
      clear hpend
      refine W_ret ?_
      refine (rTT rfl rfl rfl ⟨?_, hbw⟩).1
      rw [show packM l = .ok (packedM l) by unfold packM; rw [if_neg h8, if_pos h14]]; rfl
theorem cmp_geq (a b : List UInt8) : decide ((0 : Int) ≤ cmpSum a b) = decide (¬ a < b) := by
  rw [decide_eq_decide]
  unfold cmpSum
  have := cmp_lt a b
  constructor
  · intro h k
    have := this.2 k
    omega
  · intro h
    have := mt this.1 h
    omega
theorem unpack_no {s : List UInt8} (h1 : ¬ s.length < 4) (h2 : ¬ 16000 < num s) (h3 : ¬ s.length < 4 + 36 * num s) (h4 : ¬ 4 + 36 * num s < s.length) : unpackM s = if srtB (deltasOf (num s) (s.drop 4)) = false then .error 18 else if (deltasOf (num s) (s.drop 4)).any formN then .error 12 else .ok (deltasOf (num s) (s.drop 4)) := by
  unfold unpackM
  rw [if_neg h1, if_neg h2, if_neg h3, if_neg h4]
theorem srtB_short {l : List Chk} {j : Nat} (h : l.length ≤ j + 1) (hs : srtB (l.take (j + 1)) = true) : srtB l = true := by rwa [List.take_of_length_le h] at hs
def UnpPost (w : World) (r : Except Int (List Chk)) (e : Ending) (w' : World) : Prop := ∃ v, e = .returned (.tuple #[v, .int .i64 (errO r)]) ∧ Row w' 57 33 v (okOf [] r).length ((okOf [] r).flatMap Chk.cells) ∧ (∀ k, v.ownBlock = some k → w.heap.size ≤ k) ∧ Below w.heap.size w w'
theorem unp_err {w w' : World} {r : Except Int (List Chk)} {k : Int} (h : r = .error k) (hb : Below w.heap.size w w') : UnpPost w r (.returned (.tuple #[.slice none 0 0, .int .i64 k])) w' := by
  subst h
  exact ⟨_, rfl, Row.nil _ _ _, fun k hk => by simp [Value.ownBlock] at hk, hb⟩
theorem filled_sum {w : World} {g : Nat} {t : TypeId} {cs : Array Value} {n j i : Nat} {l : List Chk} {x : Chk} (hB : Blk w g t cs) (hf : Filled cs n j l) (hl : ∀ c ∈ l, c.sum.length = 32) (hi : i < j) (hx : l[i]? = some x) : w.rangeAt g (0 + i * 33 + 0) (x.sum.map bv) := fun q v hv => by
  have hxs := hl x (List.mem_of_getElem? hx)
  have hq : q < 32 := by have := (List.getElem?_eq_some_iff.1 hv).1; simpa [hxs] using this
  have h1 := flat_at Chk.cells 33 (l.take j) i x (fun a ha => Chk.cells_length (hl a (List.mem_of_mem_take ha))) (by rw [List.getElem?_take_of_lt hi]; exact hx)
  have h2 : (x.cells)[q]? = some v := by
    unfold Chk.cells
    rw [List.getElem?_append_left (by rw [List.length_map, hxs]; exact hq)]
    exact hv
  rw [← h1, ← hf.2, List.getElem?_take, if_pos (by omega), List.getElem?_drop, List.getElem?_take] at h2
  rw [if_pos (by have : (i + 1) * 33 ≤ j * 33 := Nat.mul_le_mul_right 33 hi; omega)] at h2
  rw [hB.cell, ← Array.getElem?_toList, show 0 + i * 33 + 0 + q = i * 33 + q by omega]
  exact h2
theorem Cmp_below (a b : List UInt8) (ha : a.length = 32) (hb : b.length = 32) (w : World) :
    Calls Try.prog 70 #[.agg (a.map bv).toArray, .agg (b.map bv).toArray] w fun e w' => e = .returned (.int .i64 (cmpSum a b)) ∧ Below w.heap.size w w' := (Cmp_any a b ha hb w).mono fun _ _ h => ⟨h.1, h.2.bel⟩
set_option maxRecDepth 10000 in
set_option maxHeartbeats 1000000 in
theorem Unpack_any (s : List UInt8) (w : World) (hs : s.length < 1000000) : Calls Try.prog 40 #[str s] w (UnpPost w (unpackM s)) := by
  obtain ⟨n, hn⟩ : ∃ n : Nat, num s = n := ⟨_, rfl⟩
  have hnl := num_lt s
  have hsg := sgn_range (num s) hnl
  have hconv : IntKind.u32.wrap (sgn (num s)) = (n : Int) := by
    rw [w32, ← hn]
    unfold sgn
    split <;> omega
  refine W_enter (args := [str s]) 80 Try.func40 rfl rfl rfl ?_
  refine W_sub [(0, str s)] ?_ ⟨rfl, trivial⟩
  have hbw := Below.refl w.heap.size w
  refine W_rs ?_
  refine sa rfl rfl ?_
  refine sa rfl rfl ?_
  refine Wn ?_
  refine tN ?_
  refine W_seq ?_
  refine W_rs ?_
  refine sm rfl rfl ?_
  refine st (X.lenS rfl rfl Try.underlying9) rfl ?_
  refine st (X.lss rfl rfl) rfl ?_
  refine Wn ?_
  refine tN ?_
  refine W_if rfl (fun h10 => ?_) (fun h10 => ?_)
  · first | replace h10 := of_decide_eq_true h10 | replace h10 := of_decide_eq_false (notT h10) | replace h10 := notT h10 | skip
    refine W_rs ?_
    refine sa rfl rfl ?_
    refine sa rfl rfl ?_
    refine Wn ?_
    refine tN ?_
    refine W_ret (tR ?_)
    exact (rTT rfl rfl rfl (unp_err (show unpackM s = .error 10 by unfold unpackM; rw [if_pos (by omega)]) hbw)).1
  · first | replace h10 := of_decide_eq_false h10 | replace h10 := of_decide_eq_true (notF h10) | replace h10 := notF h10 | skip
    refine W_skip ?_
    refine tN ?_
    refine W_rs ?_
    refine sm rfl rfl ?_
    refine sc _ Try.func69 rfl (by kernel_rfl) rfl rfl ((numbered_any s 0 _ (by omega) hs).mono ?_)
    rintro e_ w1 ⟨rfl, hb⟩
    refine cR ?_
    replace hbw := bthen hbw hb
    have hz_w1 := hb.size
    clear hb
    refine st (X.convI (z := (n : Int)) rfl Try.underlying3 Try.underlying114 hconv) rfl ?_
    refine st (X.convI (z := (n : Int)) rfl Try.underlying114 Try.underlying3 (w64 (by omega))) rfl ?_
    refine sa rfl rfl ?_
    refine Wn ?_
    refine tN ?_
    refine W_seq ?_
    refine W_block ?_
    refine W_rs ?_
    refine sm rfl rfl ?_
    refine st (X.gtr rfl rfl) rfl ?_
    refine sa rfl rfl ?_
    refine Wn ?_
    refine tN ?_
    refine W_if rfl (fun h15 => ?_) (fun h15 => ?_)
    · first | replace h15 := of_decide_eq_true h15 | replace h15 := of_decide_eq_false (notT h15) | replace h15 := notT h15 | skip
      refine W_rs ?_
      refine sa rfl rfl ?_
      refine sa rfl rfl ?_
      refine Wn ?_
      refine tN ?_
      refine W_ret (bR (tR ?_))
      exact (rTT rfl rfl rfl (unp_err (show unpackM s = .error 31 by unfold unpackM; rw [if_neg (by omega), if_pos (by omega)]) hbw)).1
    · first | replace h15 := of_decide_eq_false h15 | replace h15 := of_decide_eq_true (notF h15) | replace h15 := notF h15 | skip
      refine W_rs ?_
      refine sm rfl rfl ?_
      refine st (X.lenS rfl rfl Try.underlying9) rfl ?_
      refine sm rfl rfl ?_
      refine st (X.mul64 rfl rfl (by omega)) rfl ?_
      refine st (X.add64 rfl rfl (by omega)) rfl ?_
      refine st (X.lss rfl rfl) rfl ?_
      refine sa rfl rfl ?_
      refine Wn ?_
      refine tN ?_
      refine W_if rfl (fun h18 => ?_) (fun h18 => ?_)
      · first | replace h18 := of_decide_eq_true h18 | replace h18 := of_decide_eq_false (notT h18) | replace h18 := notT h18 | skip
        refine W_rs ?_
        refine sa rfl rfl ?_
        refine sa rfl rfl ?_
        refine Wn ?_
        refine tN ?_
        refine W_ret (bR (tR ?_))
        exact (rTT rfl rfl rfl (unp_err (show unpackM s = .error 10 by unfold unpackM; rw [if_neg (by omega), if_neg (by omega), if_pos (by omega)]) hbw)).1
      · first | replace h18 := of_decide_eq_false h18 | replace h18 := of_decide_eq_true (notF h18) | replace h18 := notF h18 | skip
        refine W_rs ?_
        refine sm rfl rfl ?_
        refine st (X.lenS rfl rfl Try.underlying9) rfl ?_
        refine sm rfl rfl ?_
        refine st (X.mul64 rfl rfl (by omega)) rfl ?_
        refine st (X.add64 rfl rfl (by omega)) rfl ?_
        refine st (X.gtr rfl rfl) rfl ?_
        refine sa rfl rfl ?_
        refine Wn ?_
        refine tN ?_
        refine W_if rfl (fun h25 => ?_) (fun h25 => ?_)
        · first | replace h25 := of_decide_eq_true h25 | replace h25 := of_decide_eq_false (notT h25) | replace h25 := notT h25 | skip
          refine W_rs ?_
          refine sa rfl rfl ?_
          refine sa rfl rfl ?_
          refine Wn ?_
          refine tN ?_
          refine W_ret (bR (tR ?_))
          exact (rTT rfl rfl rfl (unp_err (show unpackM s = .error 11 by unfold unpackM; rw [if_neg (by omega), if_neg (by omega), if_neg (by omega), if_pos (by omega)]) hbw)).1
        · first | replace h25 := of_decide_eq_false h25 | replace h25 := of_decide_eq_true (notF h25) | replace h25 := notF h25 | skip
          have hu := unpack_no (s := s) (by omega) (by omega) (by omega) (by omega)
          rw [hn] at hu
          obtain ⟨L, hL⟩ : ∃ L, deltasOf n (s.drop 4) = L := ⟨_, rfl⟩
          have hLl : L.length = n := by rw [← hL, deltasOf_length]
          rw [hL] at hu
          refine W_skip ?_
          refine bN ?_
          refine tN ?_
          refine W_rs ?_
          refine sm rfl rfl ?_
          refine smkB rfl rfl rfl rfl Try.underlying22 inf57 (by omega) (by simp only [maxLen]; omega) rfl (fun gL w2 hLB hgL hb hlL => ?_)
          replace hbw := bthen hbw hb
          clear hb
          refine sa rfl rfl ?_
          refine Wn ?_
          refine tN ?_
          refine W_seq ?_
          refine W_rs ?_
          refine sm rfl rfl ?_
          refine st (X.lenL rfl rfl Try.underlying22) rfl ?_
          refine sm rfl rfl ?_
          refine Wn ?_
          refine tN ?_
          refine W_block ?_
          refine W_lp (fun nw3_ lw3_ w3 => ∃ j : Nat, ∃ cs : Array Value, nw3_ = n - j ∧ lw3_ = ([(0, str s), (5, .slice (some ⟨gL, 0, none⟩) n n), (35, .int .i64 n), (36, .int .i64 j)] : Env) ∧ (j ≤ n) ∧ (Blk w3 gL 57 cs) ∧ (Filled cs n j L) ∧ (srtB (L.take j) = true) ∧ (Below w.heap.size w w3)) _ ⟨_, ⟨0, _, rfl, rfl, by omega, hLB, ⟨madeCells_size _ _, by simp⟩, rfl, hbw⟩, ⟨rfl, rfl, rfl, rfl, trivial⟩⟩ ?_
          clear hLB hbw
          rintro nw3_ lw3_ w3 ⟨j, cs, rfl, rfl, hj, hLB, hf, hso, hbw⟩
          have hz_w3 := hbw.size
          refine W_rs ?_
          refine st (X.lss rfl rfl) rfl ?_
          refine Wn ?_
          refine tN ?_
          refine W_seq ?_
          refine W_if rfl (fun h37 => ?_) (fun h37 => ?_)
          · first | replace h37 := of_decide_eq_true h37 | replace h37 := of_decide_eq_false (notT h37) | replace h37 := notT h37 | skip
            obtain ⟨x, hx⟩ : ∃ x, L[j]? = some x := ⟨_, List.getElem?_eq_getElem (by omega)⟩
            have hx' := deltasOf_at n (s.drop 4) j (by omega)
            rw [hL, hx] at hx'
            injection hx' with hx'
            have hxs := deltasOf_sum n (s.drop 4) (by rw [List.length_drop]; omega) x (by rw [hL]; exact List.mem_of_getElem? hx)
            rw [List.drop_drop, List.drop_drop] at hx'
            have hL32 : ∀ c ∈ L, c.sum.length = 32 := fun c hc => deltasOf_sum n (s.drop 4) (by rw [List.length_drop]; omega) c (by rw [hL]; exact hc)
            refine W_skip ?_
            refine tN ?_
            refine W_seq ?_
            refine W_block ?_
            refine W_rs ?_
            refine sm rfl rfl ?_
            refine sa rfl rfl ?_
            refine Wn ?_
            refine tN ?_
            refine W_rs ?_
            refine sm rfl rfl ?_
            refine st (X.mul64 rfl rfl (by omega)) rfl ?_
            refine st (X.add rfl rfl (show IntKind.i64.wrap (4 + (j : Int) * 36) = ((4 + 36 * j : Nat) : Int) by rw [w64 (by omega)]; omega)) rfl ?_
            refine sa rfl rfl ?_
            refine Wn ?_
            refine tN ?_
            refine W_drsN (fun _ => True) [0, 1, 2, 3, 4, 5, 6, 7, 8] [true, true, true, true, true, true, true, true, false] (by kernel_rfl) (by kernel_rfl) (trivial) ?_
            obtain ⟨w4, hw_⟩ : ∃ w4 : World, w4 = World.drew w3 := ⟨_, rfl⟩
            rw [← hw_]
            have hb : Below w3.heap.size w3 w4 := by rw [hw_]; exact bdrew (Below.refl _ _)
            clear hw_
            have hS : True := trivial
            replace hbw := bthen hbw hb
            replace hLB := hLB.bel hb
            have hz_w4 := hb.size
            clear hb
            refine oY rfl (fun W_ hW_ => (X.move rfl)) rfl ?_
            refine oY rfl (fun W_ hW_ => (X.move rfl)) rfl ?_
            refine oY rfl (fun W_ hW_ => (X.idxA rfl rfl Try.underlying22 siz57 rfl (by omega))) rfl ?_
            refine oY rfl (fun W_ hW_ => (X.fa fa57_0 rfl)) rfl ?_
            refine oY rfl (fun W_ hW_ => (X.slArr rfl Try.underlying36 siz5)) rfl ?_
            refine oY rfl (fun W_ hW_ => (X.move rfl)) rfl ?_
            refine oY rfl (fun W_ hW_ => (X.move rfl)) rfl ?_
            refine oY rfl (fun W_ hW_ => (X.fromS (i := 4 + 36 * j) rfl rfl Try.underlying9 rfl (by omega))) rfl ?_
            refine oL rfl (fun Q_ hQ_ hP_ => ?_)
            refine scpT rfl rfl Try.underlying81 siz5 hLB (by rw [List.length_drop]; omega) (by rw [hf.1]; omega) rfl (fun w5 hLB_ hc_ => ?_)
            replace hbw := bset hbw hc_ (by omega)
            have hz_c := hc_.size
            replace hLB := hLB_
            clear hLB_ hc_
            refine Wn (hQ_ _ _ trivial ?_)
            clear hQ_ hP_ Q_
            refine oN ?_
            refine nN ?_
            refine W_rs ?_
            refine sm rfl rfl ?_
            refine sm rfl rfl ?_
            refine sm rfl rfl ?_
            refine sm rfl rfl ?_
            refine st (X.add rfl rfl (show IntKind.i64.wrap (((4 + 36 * j : Nat) : Int) + 32) = ((4 + 36 * j + 32 : Nat) : Int) by rw [w64 (by omega)]; omega)) rfl ?_
            refine sc _ Try.func69 rfl (by kernel_rfl) rfl rfl ((numbered_any s (4 + 36 * j + 32) _ (by omega) hs).mono ?_)
            rintro e_ w6 ⟨rfl, hb⟩
            refine cR ?_
            replace hbw := bthen hbw hb
            replace hLB := hLB.bel hb
            have hz_w6 := hb.size
            clear hb
            refine st (X.idxA rfl rfl Try.underlying22 siz57 rfl (by omega)) rfl ?_
            refine st (X.fa fa57_1 rfl) rfl ?_
            refine ssB rfl rfl hLB siz3 rfl (by rw [splice_size _ _ _ _ (by rw [List.length_take, List.length_drop]; omega) (by rw [hf.1]; omega), hf.1]; omega) (fun w7 hLB_ hc_ => ?_)
            replace hbw := bset hbw hc_ (by omega)
            have hz_d := hc_.size
            replace hLB := hLB_
            clear hLB_ hc_
            replace hf := hf.next (by omega) hx hxs
            have hx1 : x.sum = ((s.drop (4 + 36 * j)).take 32) := by rw [hx']
            have hx2 : x.len = sgn (num (s.drop (4 + 36 * j + 32))) := by rw [hx', Nat.add_assoc]
            rw [hx1, hx2] at hf
            simp only [Nat.zero_add, Nat.add_zero] at hLB
            refine Wn ?_
            refine tN ?_
            by_cases hsp_ : 0 < j
            · refine W_drsN (fun W_ => ∃ cx, Blk W_ gL 57 cx ∧ Filled cx n (j + 1) L) [0, 1, 2, 3, 4, 5, 6, 7, 8, 9, 10, 11, 12, 13, 14, 15, 16] [true, true, true, true, true, true, true, true, true, true, true, true, true, true, false, true, true] (by kernel_rfl) (by kernel_rfl) (⟨_, hLB.drew, hf⟩) ?_
              obtain ⟨w8, hw_⟩ : ∃ w8 : World, w8 = World.drew w7 := ⟨_, rfl⟩
              rw [← hw_]
              have hb : Below w7.heap.size w7 w8 := by rw [hw_]; exact bdrew (Below.refl _ _)
              clear hw_
              have hS := hb
              replace hbw := bthen hbw hb
              replace hLB := hLB.bel hb
              have hz_w8 := hb.size
              clear hb
              obtain ⟨y, hy⟩ : ∃ y, L[j - 1]? = some y := ⟨_, List.getElem?_eq_getElem (by omega)⟩
              have hy' : L[j - 1 + 1]? = some x := by rw [show j - 1 + 1 = j by omega]; exact hx
              have hys := deltasOf_sum n (s.drop 4) (by rw [List.length_drop]; omega) y (by rw [hL]; exact List.mem_of_getElem? hy)
              refine oY rfl (fun W_ hW_ => (X.move rfl)) rfl ?_
              refine oY rfl (fun W_ hW_ => (X.gtr rfl rfl)) rfl ?_
              refine oY rfl (fun W_ hW_ => (X.mvB (c := true) rfl (decide_eq_true (by omega)))) rfl ?_
              refine oYg (g := 61) rfl rfl rfl rfl (fun W_ hW_ => (X.move rfl)) rfl ?_
              refine oYg (g := 61) rfl rfl rfl rfl (fun W_ hW_ => (X.move rfl)) rfl ?_
              refine oYg (g := 61) rfl rfl rfl rfl (fun W_ hW_ => (X.sub rfl rfl (show IntKind.i64.wrap ((j : Int) - 1) = ((j - 1 : Nat) : Int) by rw [w64 (by omega)]; omega))) rfl ?_
              refine oYg (g := 61) rfl rfl rfl rfl (fun W_ hW_ => (X.idxA rfl rfl Try.underlying22 siz57 rfl (by omega))) rfl ?_
              refine oYg (g := 61) rfl rfl rfl rfl (fun W_ hW_ => (X.fa fa57_0 rfl)) rfl ?_
              refine oYg (g := 61) rfl rfl rfl rfl (fun W_ hW_ => (X.ldN (cs := y.sum.map bv) rfl Try.underlying36 rfl (by rw [List.length_map, hys]; exact siz36) (by obtain ⟨cx, h1, h2⟩ := hW_; exact filled_sum h1 h2 hL32 (by omega) hy))) rfl ?_
              refine oYg (g := 61) rfl rfl rfl rfl (fun W_ hW_ => (X.move rfl)) rfl ?_
              refine oYg (g := 61) rfl rfl rfl rfl (fun W_ hW_ => (X.move rfl)) rfl ?_
              refine oYg (g := 61) rfl rfl rfl rfl (fun W_ hW_ => (X.idxA rfl rfl Try.underlying22 siz57 rfl (by omega))) rfl ?_
              refine oYg (g := 61) rfl rfl rfl rfl (fun W_ hW_ => (X.fa fa57_0 rfl)) rfl ?_
              refine oYg (g := 61) rfl rfl rfl rfl (fun W_ hW_ => (X.ldN (cs := x.sum.map bv) rfl Try.underlying36 rfl (by rw [List.length_map, hxs]; exact siz36) (by obtain ⟨cx, h1, h2⟩ := hW_; exact filled_sum h1 h2 hL32 (by omega) hx))) rfl ?_
              refine oL rfl (fun Q_ hQ_ hP_ => ?_)
              refine gY (g := 61) rfl rfl rfl ?_
              refine sc _ Try.func70 rfl (by kernel_rfl) rfl rfl ((Cmp_below y.sum x.sum hys hxs _).mono ?_)
              rintro e_ w9 ⟨rfl, hb⟩
              refine cR ?_
              replace hbw := bthen hbw hb
              replace hLB := hLB.bel hb
              have hz_w9 := hb.size
              clear hb
              refine Wn (hQ_ _ _ (⟨_, hLB, hf⟩) ?_)
              clear hQ_ hP_ Q_
              refine oYg (g := 61) rfl rfl rfl rfl (fun W_ hW_ => (X.geq rfl rfl)) rfl ?_
              refine oY rfl (fun W_ hW_ => (X.pickT rfl rfl)) rfl ?_
              refine oN ?_
              refine nN ?_
              refine W_if rfl (fun h75 => ?_) (fun h75 => ?_)
              · first | replace h75 := of_decide_eq_true h75 | replace h75 := of_decide_eq_false (notT h75) | replace h75 := notT h75 | skip
                refine W_rs ?_
                refine sa rfl rfl ?_
                refine sa rfl rfl ?_
                refine Wn ?_
                refine tN ?_
                refine W_ret (bR (tR (tR (bR (tR ?_)))))
                have hnlt : ¬ y.sum < x.sum := by have := of_decide_eq_true ((cmp_geq y.sum x.sum).symm.trans (decide_eq_true h75)); exact this
                exact (rTT rfl rfl rfl (unp_err (show unpackM s = .error 18 by rw [hu, if_pos (srtB_no hy hy' hnlt)]) hbw)).1
              · first | replace h75 := of_decide_eq_false h75 | replace h75 := of_decide_eq_true (notF h75) | replace h75 := notF h75 | skip
                refine W_skip ?_
                refine bN ?_
                refine tN ?_
                refine W_reg ?_
                have hlt' : y.sum < x.sum := by
                  refine Classical.byContradiction fun hn' => h75 ?_
                  exact of_decide_eq_true ((cmp_geq y.sum x.sum).trans (decide_eq_true hn'))
                have hso' : srtB (L.take (j + 1)) = true := by
                  have := srtB_take (i := j - 1) (by rw [show j - 1 + 1 = j by omega]; exact hso) hy hy' hlt'
                  rwa [show j - 1 + 2 = j + 1 by omega] at this
                refine st (X.add64 rfl rfl (by omega)) rfl ?_
                refine sm rfl rfl ?_
                refine Wn ?_
                refine tN ⟨_, _, ?_, ⟨j + 1, _, rfl, rfl, by omega, hLB, hf, hso', hbw⟩, ⟨rfl, rfl, rfl, rfl, trivial⟩⟩
                omega
            · refine W_drsN (fun _ => True) [0, 1, 2, 3, 4, 5, 6, 7, 8, 9, 10, 11, 12, 13, 14, 15, 16] [true, true, true, true, true, true, true, true, true, true, true, true, true, true, false, true, true] (by kernel_rfl) (by kernel_rfl) (trivial) ?_
              obtain ⟨w10, hw_⟩ : ∃ w10 : World, w10 = World.drew w7 := ⟨_, rfl⟩
              rw [← hw_]
              have hb : Below w7.heap.size w7 w10 := by rw [hw_]; exact bdrew (Below.refl _ _)
              clear hw_
              have hS : True := trivial
              replace hbw := bthen hbw hb
              replace hLB := hLB.bel hb
              have hz_w10 := hb.size
              clear hb
              refine oY rfl (fun W_ hW_ => (X.move rfl)) rfl ?_
              refine oY rfl (fun W_ hW_ => (X.gtr rfl rfl)) rfl ?_
              refine oY rfl (fun W_ hW_ => (X.mvB (c := false) rfl (decide_eq_false (by omega)))) rfl ?_
              refine oNg (g := 61) rfl rfl rfl rfl hS rfl ?_
              refine oNg (g := 61) rfl rfl rfl rfl hS rfl ?_
              refine oNg (g := 61) rfl rfl rfl rfl hS rfl ?_
              refine oNg (g := 61) rfl rfl rfl rfl hS rfl ?_
              refine oNg (g := 61) rfl rfl rfl rfl hS rfl ?_
              refine oNg (g := 61) rfl rfl rfl rfl hS rfl ?_
              refine oNg (g := 61) rfl rfl rfl rfl hS rfl ?_
              refine oNg (g := 61) rfl rfl rfl rfl hS rfl ?_
              refine oNg (g := 61) rfl rfl rfl rfl hS rfl ?_
              refine oNg (g := 61) rfl rfl rfl rfl hS rfl ?_
              refine oNg (g := 61) rfl rfl rfl rfl hS rfl ?_
              refine oNg (g := 61) rfl rfl rfl rfl hS rfl ?_
              refine oNg (g := 61) rfl rfl rfl rfl hS rfl ?_
              refine oY rfl (fun W_ hW_ => (X.pickF rfl rfl)) rfl ?_
              refine oN ?_
              refine nN ?_
              refine W_no rfl (rfl) ?_
              refine W_skip ?_
              refine bN ?_
              refine tN ?_
              refine W_reg ?_
              have hso' : srtB (L.take (j + 1)) = true := by
                obtain rfl : j = 0 := by omega
                cases L with
                | nil => rfl
                | cons c L => rfl
              refine st (X.add64 rfl rfl (by omega)) rfl ?_
              refine sm rfl rfl ?_
              refine Wn ?_
              refine tN ⟨_, _, ?_, ⟨j + 1, _, rfl, rfl, by omega, hLB, hf, hso', hbw⟩, ⟨rfl, rfl, rfl, rfl, trivial⟩⟩
              omega
          · first | replace h37 := of_decide_eq_false h37 | replace h37 := of_decide_eq_true (notF h37) | replace h37 := notF h37 | skip
            obtain rfl : n = j := by omega
            rw [List.take_of_length_le (by omega)] at hso
            rw [if_neg (by rw [hso]; simp)] at hu
            have hcl : cs.toList = L.flatMap Chk.cells := by
              have h5 := hf.2
              rw [List.take_of_length_le (by have := hf.1; simp; omega), List.take_of_length_le (by omega)] at h5
              exact h5
            have hRow : Row w3 57 33 (.slice (some ⟨gL, 0, none⟩) n n) n (L.flatMap Chk.cells) := by rw [← hcl]; exact hLB.row_ hf.1 (by simp only [maxLen]; omega)
            have hL32 : ∀ c ∈ L, c.sum.length = 32 := fun c hc => deltasOf_sum n (s.drop 4) (by rw [List.length_drop]; omega) c (by rw [hL]; exact hc)
            refine W_exit (tE (tE (bH ?_)))
            refine tN ?_
            refine W_seq ?_
            refine W_rs ?_
            refine sm rfl rfl ?_
            refine sc _ Try.func71 rfl (by kernel_rfl) rfl rfl ((ContainsFunc_any formN 72 Try.func72 rfl (by kernel_rfl) unpack1_any _ L _ ⟨by rw [hLl]; exact hRow.reads, hL32⟩).mono ?_)
            rintro e_ w11 ⟨rfl, hb⟩
            refine cR ?_
            have hpend := hb
            replace hbw := bthen hbw hb
            replace hLB := hLB.bel hb
            have hz_w11 := hb.size
            clear hb
            refine Wn ?_
            refine tN ?_
            refine W_if rfl (fun h78 => ?_) (fun h78 => ?_)
            · first | replace h78 := of_decide_eq_true h78 | replace h78 := of_decide_eq_false (notT h78) | replace h78 := notT h78 | skip
              refine W_rs ?_
              refine sa rfl rfl ?_
              refine sa rfl rfl ?_
              refine Wn ?_
              refine tN ?_
              replace hRow := hRow.bel hpend
              clear hpend
              refine W_ret (tR ?_)
              exact (rTT rfl rfl rfl (unp_err (show unpackM s = .error 12 by rw [hu, if_pos h78]) hbw)).1
            · first | replace h78 := of_decide_eq_false h78 | replace h78 := of_decide_eq_true (notF h78) | replace h78 := notF h78 | skip
              refine W_skip ?_
              refine tN ?_
              refine W_rs ?_
              refine sm rfl rfl ?_
              refine sa rfl rfl ?_
              refine sa rfl rfl ?_
              refine Wn ?_
              refine tN ?_
              replace hRow := hRow.bel hpend
              clear hpend
              refine W_ret ?_
              have hok : unpackM s = .ok L := by rw [hu, if_neg (by simp [h78])]
              refine (rTT rfl rfl rfl ?_).1
              rw [hok]
              exact ⟨.slice (some ⟨gL, 0, none⟩) n n, rfl, by show Row _ _ _ _ L.length _; rw [hLl]; exact hRow, fun q hq => by simp [Value.ownBlock] at hq; omega, hbw⟩
end Go.Proofs.Ytnagmpnpgekhfaa
