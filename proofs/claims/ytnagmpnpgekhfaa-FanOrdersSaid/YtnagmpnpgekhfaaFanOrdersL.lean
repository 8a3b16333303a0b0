/- The law FanOrders. -/
import Derived.Test.YtnagmpnpgekhfaaFanMakesL
import Derived.Test.YtnagmpnpgekhfaaTree
namespace Go.Proofs.Ytnagmpnpgekhfaa
open Go.RowKit
theorem rows_next {l : List Ent} (h : Up l) (h32 : S32 l) (b : Nat) : l.take (lowM l (b + 1)) = l.take (lowM l b) ++ bucketM l b := by
  rw [bucket_eq h h32]
  have hm := low_mono l b
  have e1 : l.take (lowM l b) = (l.take (lowM l (b + 1))).take (lowM l b) := by rw [List.take_take]; congr 1; omega
  rw [e1, List.take_append_drop]
theorem low_0 (l : List Ent) : lowM l 0 = 0 := by
  unfold lowM
  rw [List.filter_eq_nil_iff.2 (by simp)]
  rfl
theorem ents_oneO {l : List Ent} : ∀ u ∈ l.flatMap Ent.cells, u.oneCell' = true := fun u hu => by
  obtain ⟨e, _, hu⟩ := List.mem_flatMap.1 hu
  have := Ent.cells_one e
  rw [List.all_eq_true] at this
  exact this u hu
theorem any_take' {α : Type} (p : α → Bool) {l : List α} {j : Nat} {x : α} (h : l[j]? = some x) : (l.take (j + 1)).any p = ((l.take j).any p || p x) := by
  rw [take_next' h, List.any_append]; simp
theorem find_any (l : List Ent) (s : List UInt8) : (findM l s).isSome = l.any (fun e => e.sum == s) := by
  rw [find_isSome, Bool.eq_iff_iff]
  simp
theorem getD32 {L : List Ent} (h : S32 L) (s : List UInt8) : ((findM L s).getD eZ).sum.length = 32 := by
  cases hq : findM L s with
  | none => rfl
  | some x => exact h x (find_mem hq).1
section
variable {P : Program} {N : Nat} {ds : List Deferred} {Q : Post} {S : World → Prop} {os : List Oper} {is : List Nat} {bs : List Bool} {l r : Env} {w w' : World} {op : Op} {ty : TypeId} {pos : String} {aft : Array Edge} {d i j g : Nat} {b : Bool}
/-- a guard that never says anything -/
theorem oNu {m : Bool} (ho : os[i]? = some ⟨some d, op, ty, pos, aft, some (j, b)⟩) (hj : (os.toArray[j]?).bind (·.dst) = some g) (hg : lk l g = some undef) (hN : Nat.blt g N = true) (hS : S w) (hd : Nat.blt d N = true) (h : WO P N ds os Q S is bs ((d, undef) :: l) w) : WO P N ds os Q S (i :: is) (m :: bs) l w := fun a ha => by
  rw [permute_cons ho]
  have hs : g < a.tmps.size := by rw [ha.size]; exact of_decide_eq_true (by simpa [Nat.blt_eq] using hN)
  have hv := ha.val g _ hg
  have hy : yielded os.toArray a.tmps j = none := by
    unfold yielded
    rw [hj]
    simp only [Option.bind_some]
    rw [Array.getElem?_eq_getElem hs]
    simp only [Array.getD_eq_getD_getElem?, Array.getElem?_eq_getElem hs, Option.getD_some] at hv
    rw [hv]
    rfl
  have hw : Region.wanted ⟨some d, op, ty, pos, aft, some (j, b)⟩ (yielded os.toArray a.tmps) = false := by simp [Region.wanted, hy]
  cases m with
  | true => exact wpOrd_no hw (h _ (ha.put hd undef))
  | false => exact wpOrd_alone_no hw hS (h _ (ha.put hd undef))
end
set_option maxRecDepth 10000 in
set_option maxHeartbeats 2000000 in
theorem FanOrders_walk (w : World) (v : Value) (l : List Ent) (h : EntsAt w v l) (h32 : S32 l) (s : List UInt8) (hs : s.length = 32) : Calls Try.prog 15 #[v, .agg (s.map bv).toArray] w fun e w' => e = .returned (.bool true) ∧ Below w.heap.size w w' := by
  obtain ⟨a, cp, rfl, hn, hcp⟩ := h.shape
  have hss : (Try.prog.info? 36).map (·.size) = some (s.map bv).toArray.size := by rw [encSum_size ⟨s, hs⟩]; exact siz36
  obtain ⟨p, hp⟩ : ∃ p : Ent → Bool, (fun e => e.sum == s) = p := ⟨_, rfl⟩
  refine W_enter (args := [.slice a l.length cp, .agg (s.map bv).toArray]) 155 Try.func15 rfl rfl rfl ?_
  refine W_sub [(0, .slice a l.length cp), (1, .agg (s.map bv).toArray)] ?_ ⟨rfl, rfl, trivial⟩
  have hbw := Below.refl w.heap.size w
  refine W_rs ?_
  refine sboxA rfl rfl (fun g3 w1 hB3 hg3 hb hl3 => ?_)
  replace hbw := bthen hbw hb
  have hz_w1 := hb.size
  clear hb
  refine sa rfl rfl ?_
  refine Wn ?_
  refine tN ?_
  refine W_seq ?_
  refine W_rs ?_
  refine sm rfl rfl ?_
  refine st (X.lenL rfl rfl Try.underlying69) rfl ?_
  refine st (X.gtr rfl rfl) rfl ?_
  refine Wn ?_
  refine tN ?_
  refine W_if rfl (fun h18 => ?_) (fun h18 => ?_)
  · first | replace h18 := of_decide_eq_true h18 | replace h18 := of_decide_eq_false (notT h18) | replace h18 := notT h18 | skip
    refine W_rs ?_
    refine sc _ Try.func44 rfl (by kernel_rfl) rfl rfl ((fawake_any _).mono ?_)
    rintro e_ w2 ⟨rfl, hb⟩
    refine cR ?_
    replace hbw := bthen hbw hb
    replace hB3 := hB3.bel hb
    have hz_w2 := hb.size
    clear hb
    refine sa rfl rfl ?_
    refine Wn ?_
    refine tN ?_
    refine W_ret (tR ?_)
    exact (rT rfl rfl ⟨rfl, hbw⟩).1
  · first | replace h18 := of_decide_eq_false h18 | replace h18 := of_decide_eq_true (notF h18) | replace h18 := notF h18 | skip
    have hml := make_length l
    have hL32 := make_S32 h32
    have hLu := make_up l
    refine W_skip ?_
    refine tN ?_
    refine W_rs ?_
    refine sm rfl rfl ?_
    refine sc _ Try.func45 rfl (by kernel_rfl) rfl rfl ((Make_any _ l _ (h.bel hbw) h32 (by omega)).mono ?_)
    rintro e_ w3 ⟨vm, rfl, hE, hb⟩
    refine cR ?_
    replace hbw := bthen hbw hb
    replace hB3 := hB3.bel hb
    have hz_w3 := hb.size
    clear hb
    obtain ⟨am, cm, rfl, _, _⟩ := hE.shape
    refine sm rfl rfl ?_
    refine st (X.ext rfl rfl) rfl ?_
    refine st (X.ext rfl rfl) rfl ?_
    refine salA inf71 rfl (fun g5 w4 hB5 hg5 hb hl5 => ?_)
    have hpend := hb
    replace hbw := bthen hbw hb
    replace hB3 := hB3.bel hb
    have hz_w4 := hb.size
    clear hb
    refine ssBN rfl rfl hB5 siz71 rfl rfl (fun w5 hB_ hc_ => ?_)
    replace hB5 := hB_
    clear hB_
    replace hpend := bset hpend hc_ (by omega)
    replace hB3 := hB3.chg hc_ (by first | (show ¬ _ = _; omega) | (intro k_ hk_; simp [Value.ownBlock] at hk_; subst hk_; show ¬ _ = _; omega))
    replace hbw := bset hbw hc_ (by omega)
    have hz_w5 := hc_.size
    clear hc_
    refine sa rfl rfl ?_
    refine Wn ?_
    refine tN ?_
    refine W_seq ?_
    refine W_rs ?_
    refine sm rfl rfl ?_
    refine st (X.neq rfl rfl) rfl ?_
    refine Wn ?_
    refine tN ?_
    refine W_if rfl (fun h26 => ?_) (fun h26 => ?_)
    · first | replace h26 := of_decide_eq_true h26 | replace h26 := of_decide_eq_false (notT h26) | replace h26 := notT h26 | skip
      have hbad := make_bad h26
      refine W_rs ?_
      refine st (X.ldBN rfl hB5 Try.underlying71 rfl siz71) rfl ?_
      replace hE := hE.bel hpend
      clear hpend
      refine sc _ Try.func51 rfl (by kernel_rfl) rfl rfl ((ILen_any _ (makeM l).1 _ hE).mono ?_)
      rintro e_ w6 ⟨rfl, hb⟩
      refine cR ?_
      have hpend := hb
      replace hbw := bthen hbw hb
      replace hB3 := hB3.bel hb
      replace hB5 := hB5.bel hb
      have hz_w6 := hb.size
      clear hb
      refine st (X.eql rfl rfl) rfl ?_
      refine sbY rfl (by rw [hbad]; rfl) rfl ?_
      refine gY (g := 30) rfl rfl rfl ?_
      refine sc _ Try.func44 rfl (by kernel_rfl) rfl rfl ((fawake_any _).mono ?_)
      rintro e_ w7 ⟨rfl, hb⟩
      refine cR ?_
      replace hpend := bthen hpend hb
      replace hbw := bthen hbw hb
      replace hB3 := hB3.bel hb
      replace hB5 := hB5.bel hb
      have hz_w7 := hb.size
      clear hb
      refine st (X.pickT rfl rfl) rfl ?_
      refine sa rfl rfl ?_
      refine Wn ?_
      refine tN ?_
      replace hE := hE.bel hpend
      clear hpend
      refine W_ret (tR ?_)
      exact (rT rfl rfl ⟨rfl, hbw⟩).1
    · first | replace h26 := of_decide_eq_false h26 | replace h26 := of_decide_eq_true (notF h26) | replace h26 := notF h26 | skip
      have h0 : (makeM l).2 = 0 := Classical.not_not.1 h26
      obtain ⟨L, hL⟩ : ∃ L, (makeM l).1 = L := ⟨_, rfl⟩
      have hLl : L.length = l.length := by rw [← hL]; exact (make_ok h0).2.2.2.2.perm.length_eq
      rw [hL] at hE hml hL32 hLu hB5
      refine W_skip ?_
      refine tN ?_
      refine W_rs ?_
      refine st (X.ldBN rfl hB5 Try.underlying71 rfl siz71) rfl ?_
      replace hE := hE.bel hpend
      clear hpend
      refine sc _ Try.func54 rfl (by kernel_rfl) rfl rfl ((IAll_any _ L _ hE hL32 (by omega)).mono ?_)
      rintro e_ w8 ⟨va, rfl, hA, hOa, hb⟩
      refine cR ?_
      have hpend := hb
      replace hbw := bthen hbw hb
      replace hB3 := hB3.bel hb
      replace hB5 := hB5.bel hb
      have hz_w8 := hb.size
      clear hb
      obtain ⟨aa, ca, rfl, _, _⟩ := hA.shape
      replace hE := hE.bel hpend
      clear hpend
      refine sa rfl rfl ?_
      refine Wn ?_
      refine tN ?_
      refine W_rs ?_
      refine sa rfl rfl ?_
      refine Wn ?_
      refine tN ?_
      refine W_seq ?_
      refine W_rs ?_
      refine sa rfl rfl ?_
      refine Wn ?_
      refine tN ?_
      refine W_block ?_
      obtain ⟨wB, hwB⟩ : ∃ W_ : World, W_ = w8 := ⟨_, rfl⟩
      have hbB : Below wB.heap.size wB w8 := by rw [hwB]; exact Below.refl _ _
      have hwBz : w.heap.size ≤ wB.heap.size := by rw [hwB]; exact hbw.size
      have hg3B : g3 < wB.heap.size := by rw [hwB]; exact hB3.lt
      have hg5B : g5 < wB.heap.size := by rw [hwB]; exact hB5.lt
      rw [← hwB] at hE hA
      clear hwB
      refine W_lp (fun nw9_ lw9_ w9 => ∃ b : Nat, ∃ v8 : Value, nw9_ = 256 - b ∧ lw9_ = ([(0, .slice a l.length cp), (3, .pointer (some ⟨g3, 0, none⟩)), (5, .pointer (some ⟨g5, 0, none⟩)), (7, .slice aa L.length ca), (8, v8), (9, .int .i64 b)] : Env) ∧ (b ≤ 256) ∧ (Row w9 90 35 v8 (L.take (lowM L b)).length ((L.take (lowM L b)).flatMap Ent.cells)) ∧ (∀ k, v8.ownBlock = some k → wB.heap.size ≤ k) ∧ (Blk w9 g3 36 (s.map bv).toArray) ∧ (Blk w9 g5 71 #[.slice am L.length cm]) ∧ (Below wB.heap.size wB w9) ∧ (g3 < wB.heap.size) ∧ (g5 < wB.heap.size) ∧ (Below w.heap.size w w9)) _ ⟨_, ⟨0, .slice none 0 0, rfl, rfl, by omega, (by rw [low_0]; exact Row.nil _ _ _), (fun k hk => by simp [Value.ownBlock] at hk), hB3, hB5, hbB, hg3B, hg5B, hbw⟩, ⟨rfl, rfl, rfl, rfl, rfl, rfl, trivial⟩⟩ ?_
      clear hB3 hB5 hbB hg3B hg5B hbw
      rintro nw9_ lw9_ w9 ⟨b, v8, rfl, rfl, hb256, hR, hO, hB3, hB5, hbB, hg3B, hg5B, hbw⟩
      have hz_w9 := hbw.size
      have hz_hbB_w9 := hbB.size
      have hlt_hB3_w9 := hB3.lt
      have hlt_hB5_w9 := hB5.lt
      refine W_seq ?_
      refine W_rs ?_
      refine sm rfl rfl ?_
      refine st (X.lss rfl rfl) rfl ?_
      refine Wn ?_
      refine tN ?_
      refine W_if rfl (fun h36 => ?_) (fun h36 => ?_)
      · first | replace h36 := of_decide_eq_true h36 | replace h36 := of_decide_eq_false (notT h36) | replace h36 := notT h36 | skip
        have hbn : (UInt8.ofNat b).toNat = b := by rw [UInt8.toNat_ofNat']; omega
        have hcl := List.length_take_le' (lowM L b) L
        have hbl := bucket_le L b
        refine W_skip ?_
        refine tN ?_
        refine W_seq ?_
        refine W_block ?_
        refine W_reg ?_
        refine sm rfl rfl ?_
        refine st (X.ldBN rfl hB5 Try.underlying71 rfl siz71) rfl ?_
        refine sm rfl rfl ?_
        refine st (X.convI (z := ((UInt8.ofNat b).toNat : Int)) rfl Try.underlying3 Try.underlying5 ((Go.Proofs.Ytnagmpnpgekhfaa.w8 _).trans (by rw [hbn]; omega))) rfl ?_
        refine sc _ Try.func55 rfl (by kernel_rfl) rfl rfl ((Bucket_any _ L (UInt8.ofNat b) _ (hE.bel hbB) hL32 hLu (by omega)).mono ?_)
        rintro e_ w10 ⟨vk, rfl, hK, hOk, hb⟩
        refine cR ?_
        have hpend := hb
        replace hbw := bthen hbw hb
        replace hbB := bthen hbB hb
        replace hB3 := hB3.bel hb
        replace hB5 := hB5.bel hb
        have hz_w10 := hb.size
        clear hb
        rw [hbn] at hK
        replace hR := hR.bel hpend
        clear hpend
        refine sapp rfl rfl Try.underlying69 inf90 rfl (by decide) hR (hK.reads.src Try.underlying69 ents_oneO) (by simp only [maxLen]; omega) (by omega) rfl (fun v8' w11 hR' hC hv' => ?_)
        replace hbw := bapp hbw hC (fun k hk => by have := hO k hk; omega)
        have hO' := own_next hv' hO (by have := hbB.size; omega)
        replace hbB := bapp hbB hC hO
        replace hB3 := hB3.chg hC (fun hk => by have := hO _ hk; omega)
        replace hB5 := hB5.chg hC (fun hk => by have := hO _ hk; omega)
        replace hR' : Row w11 90 35 v8' (L.take (lowM L (b + 1))).length ((L.take (lowM L (b + 1))).flatMap Ent.cells) := by rw [rows_next hLu hL32, List.length_append, List.flatMap_append]; exact hR'
        clear hC hv'
        refine sa rfl rfl ?_
        refine Wn ?_
        refine bN ?_
        refine tN ?_
        refine W_reg ?_
        refine sm rfl rfl ?_
        refine st (X.add64 rfl rfl (by omega)) rfl ?_
        refine sa rfl rfl ?_
        refine Wn ?_
        refine tN ⟨_, _, ?_, ⟨b + 1, v8', rfl, rfl, by omega, hR', hO', hB3, hB5, hbB, hg3B, hg5B, hbw⟩, ⟨rfl, rfl, rfl, rfl, rfl, rfl, trivial⟩⟩
        omega
      · first | replace h36 := of_decide_eq_false h36 | replace h36 := of_decide_eq_true (notF h36) | replace h36 := notF h36 | skip
        obtain rfl : b = 256 := by omega
        rw [low_all L 256 (by omega), List.take_length] at hR
        obtain ⟨a8, c8, rfl, _, _⟩ := hR.shape
        refine W_exit (tE (tE (bH ?_)))
        refine tN ?_
        refine W_seq ?_
        refine W_rs ?_
        refine sm rfl rfl ?_
        refine st (X.lenL rfl rfl Try.underlying69) rfl ?_
        refine sm rfl rfl ?_
        refine st (X.lenL rfl rfl Try.underlying69) rfl ?_
        refine st (X.neq rfl rfl) rfl ?_
        refine sbN rfl (by simp) rfl ?_
        refine gY (g := 50) rfl rfl rfl ?_
        refine sm rfl rfl ?_
        refine gY (g := 50) rfl rfl rfl ?_
        refine st (X.lenL rfl rfl Try.underlying69) rfl ?_
        refine gY (g := 50) rfl rfl rfl ?_
        refine sm rfl rfl ?_
        refine gY (g := 50) rfl rfl rfl ?_
        refine st (X.lenL rfl rfl Try.underlying69) rfl ?_
        refine gY (g := 50) rfl rfl rfl ?_
        refine st (X.neq rfl rfl) rfl ?_
        refine st (X.pickF rfl rfl) rfl ?_
        refine Wn ?_
        refine tN ?_
        refine W_no rfl (by simp [hLl]) ?_
        refine W_skip ?_
        refine tN ?_
        refine W_rs ?_
        refine sa rfl rfl ?_
        refine Wn ?_
        refine tN ?_
        refine W_seq ?_
        refine W_rs ?_
        refine sa rfl rfl ?_
        refine Wn ?_
        refine tN ?_
        refine W_block ?_
        have hRr : EntsAt w9 (.slice a8 L.length c8) L := hR.reads
        clear hR hO
        have hEe := hE.bel hbB
        have hAe : EntsAt w9 (.slice aa L.length ca) L := hA.reads.bel hbB
        clear hbB hE hA hg3B hg5B hwBz
        obtain ⟨wC, hwC⟩ : ∃ W_ : World, W_ = w9 := ⟨_, rfl⟩
        have hbB2 : Below wC.heap.size wC w9 := by rw [hwC]; exact Below.refl _ _
        have hwCz : w.heap.size ≤ wC.heap.size := by rw [hwC]; exact hbw.size
        rw [← hwC] at hEe hAe hRr
        clear hwC
        refine W_lp (fun nw12_ lw12_ w12 => ∃ i : Nat, ∃ th : Bool, nw12_ = L.length - i ∧ lw12_ = ([(0, .slice a l.length cp), (3, .pointer (some ⟨g3, 0, none⟩)), (5, .pointer (some ⟨g5, 0, none⟩)), (7, .slice aa L.length ca), (8, .slice a8 L.length c8), (10, .bool th), (11, .int .i64 i)] : Env) ∧ (i ≤ L.length) ∧ (th = (L.take i).any p) ∧ (Blk w12 g3 36 (s.map bv).toArray) ∧ (Blk w12 g5 71 #[.slice am L.length cm]) ∧ (Below wC.heap.size wC w12) ∧ (Below w.heap.size w w12)) _ ⟨_, ⟨0, false, rfl, rfl, by omega, rfl, hB3, hB5, hbB2, hbw⟩, ⟨rfl, rfl, rfl, rfl, rfl, rfl, rfl, trivial⟩⟩ ?_
        clear hB3 hB5 hbB2 hbw
        rintro nw12_ lw12_ w12 ⟨i, th, rfl, rfl, hi, hth, hB3, hB5, hbB2, hbw⟩
        have hz_w12 := hbw.size
        have hz_hbB2_w12 := hbB2.size
        have hlt_hB3_w12 := hB3.lt
        have hlt_hB5_w12 := hB5.lt
        refine W_seq ?_
        refine W_rs ?_
        refine sm rfl rfl ?_
        refine sm rfl rfl ?_
        refine st (X.lenL rfl rfl Try.underlying69) rfl ?_
        refine st (X.lss rfl rfl) rfl ?_
        refine Wn ?_
        refine tN ?_
        refine W_if rfl (fun h60 => ?_) (fun h60 => ?_)
        · first | replace h60 := of_decide_eq_true h60 | replace h60 := of_decide_eq_false (notT h60) | replace h60 := notT h60 | skip
          obtain ⟨x, hx⟩ : ∃ x, L[i]? = some x := ⟨_, List.getElem?_eq_getElem (by omega)⟩
          have hxs := hL32 x (List.mem_of_getElem? hx)
          have hfx := find_some hLu (List.mem_of_getElem? hx)
          obtain ⟨g1, o1, c', hv, hg1⟩ := (hAe.bel hbB2).some_ (by omega)
          injection hv with e1 _ e3
          subst e1 e3
          obtain ⟨g2, o2, c', hv, hg2⟩ := (hRr.bel hbB2).some_ (by omega)
          injection hv with e1 _ e3
          subst e1 e3
          refine W_skip ?_
          refine tN ?_
          refine W_seq ?_
          refine W_block ?_
          refine W_trsN (fun W_ => Blk W_ g5 71 #[.slice am L.length cm] ∧ W_.rangeAt g1 (o1 + i * 35 + 0) (x.sum.map bv)) (.yes 0 (.yes 1 (.yes 2 (.yes 3 (.yes 4 (.yes 5 (.pick (.alt 6 (.yes 7 (.yes 8 (.yes 9 (.pick (.alt 10 (.pick (.alt 11 (.yes 12 (.nil)) (.no))) (.no)))))) (.alt 10 (.pick (.alt 6 (.yes 7 (.yes 8 (.yes 9 (.pick (.alt 11 (.yes 12 (.nil)) (.no)))))) (.no))) (.no)))))))))) (by kernel_rfl) (by kernel_rfl) (⟨hB5.drew, EntsAt.sum (hAe.bel (bdrew hbB2)) hL32 hx⟩) ?_
          obtain ⟨w13, hw_⟩ : ∃ w13 : World, w13 = World.drew w12 := ⟨_, rfl⟩
          rw [← hw_]
          have hb : Below w12.heap.size w12 w13 := by rw [hw_]; exact bdrew (Below.refl _ _)
          clear hw_
          have hS := hb
          replace hbw := bthen hbw hb
          replace hbB2 := bthen hbB2 hb
          replace hB3 := hB3.bel hb
          replace hB5 := hB5.bel hb
          have hz_w13 := hb.size
          clear hb
          refine uY rfl (fun W_ hW_ => (X.ldBN rfl hW_.1 Try.underlying71 rfl siz71)) rfl ?_
          refine uY rfl (fun W_ hW_ => (X.move rfl)) rfl ?_
          refine uY rfl (fun W_ hW_ => (X.move rfl)) rfl ?_
          refine uY rfl (fun W_ hW_ => (X.idxA rfl rfl Try.underlying69 siz90 rfl (by omega))) rfl ?_
          refine uY rfl (fun W_ hW_ => (X.fa fa90_0 rfl)) rfl ?_
          refine uY rfl (fun W_ hW_ => (X.ldN (cs := x.sum.map bv) rfl Try.underlying36 rfl (by rw [List.length_map, hxs]; exact siz36) hW_.2)) rfl ?_
          refine uP (uA rfl (fun Q_ hQ_ hP_ => ?_) (uA rfl (fun Q_ hQ_ hP_ => ?_) u0))
          · refine sc _ Try.func57 rfl (by kernel_rfl) rfl rfl ((Find_any _ L x.sum _ (hEe.bel hbB2) hL32 hLu hxs (by omega)).mono ?_)
            rintro e_ w14 ⟨rfl, hb⟩
            refine cR ?_
            replace hbw := bthen hbw hb
            replace hbB2 := bthen hbB2 hb
            replace hB3 := hB3.bel hb
            replace hB5 := hB5.bel hb
            have hz_w14 := hb.size
            clear hb
            refine Wn (hQ_ _ _ (⟨hB5, EntsAt.sum (hAe.bel hbB2) hL32 hx⟩) ?_)
            clear hQ_ hP_ Q_
            rw [hfx]
            refine uY rfl (fun W_ hW_ => (X.move rfl)) rfl ?_
            refine uY rfl (fun W_ hW_ => (X.ext rfl rfl)) rfl ?_
            refine uY rfl (fun W_ hW_ => (X.ext rfl rfl)) rfl ?_
            refine uP (uA rfl (fun Q_ hQ_ hP_ => ?_) u0)
            refine salA inf90 rfl (fun g12 w15 hB12 hg12 hb hl12 => ?_)
            replace hbw := bthen hbw hb
            replace hbB2 := bthen hbB2 hb
            replace hB3 := hB3.bel hb
            replace hB5 := hB5.bel hb
            have hz_w15 := hb.size
            clear hb
            refine Wn (hQ_ _ _ (⟨hB5, EntsAt.sum (hAe.bel hbB2) hL32 hx⟩) ?_)
            clear hQ_ hP_ Q_
            refine uP (uA rfl (fun Q_ hQ_ hP_ => ?_) u0)
            refine ssBN rfl rfl hB12 (by rw [Ent.size (show ((some x).getD eZ).sum.length = 32 from hxs)]; exact siz90) (by rw [Ent.size (show ((some x).getD eZ).sum.length = 32 from hxs)]; rfl) (Ent.cells_one _) (fun w16 hB_ hc_ => ?_)
            replace hB12 := hB_
            clear hB_
            replace hB3 := hB3.chg hc_ (by first | (show ¬ _ = _; omega) | (intro k_ hk_; simp [Value.ownBlock] at hk_; subst hk_; show ¬ _ = _; omega))
            replace hB5 := hB5.chg hc_ (by first | (show ¬ _ = _; omega) | (intro k_ hk_; simp [Value.ownBlock] at hk_; subst hk_; show ¬ _ = _; omega))
            replace hbw := bset hbw hc_ (by omega)
            replace hbB2 := bset hbB2 hc_ (by omega)
            have hz_w16 := hc_.size
            clear hc_
            refine Wn (hQ_ _ _ (⟨hB5, EntsAt.sum (hAe.bel hbB2) hL32 hx⟩) ?_)
            clear hQ_ hP_ Q_
            refine uY rfl (fun W_ hW_ => (X.assign rfl)) rfl ?_
            refine uN ?_
            refine nN ?_
            refine W_seq ?_
            by_cases hsp_ : 0 < i
            · obtain ⟨y, hy⟩ : ∃ y, L[i - 1]? = some y := ⟨_, List.getElem?_eq_getElem (by omega)⟩
              have hys := hL32 y (List.mem_of_getElem? hy)
              have hyx : y.sum < x.sum := hLu.at_ hy hx (by omega)
              refine W_drsN (fun W_ => ∃ gz, gz = g12 ∧ Blk W_ gz 90 x.cells.toArray ∧ W_.rangeAt g2 (o2 + i * 35) x.cells ∧ W_.rangeAt g1 (o1 + i * 35) x.cells ∧ W_.rangeAt g1 (o1 + (i - 1) * 35) y.cells) [0, 1, 2, 3, 4, 5, 6, 7, 8, 9, 10, 11, 12, 13, 14, 15, 16, 17, 18, 19, 20, 21, 22, 23, 24, 25, 26, 27, 28, 29, 30, 31, 32, 33, 34, 35, 36, 37, 38, 39, 40, 41, 42, 43, 44, 45, 46, 47, 48, 49, 50, 51, 52, 53] [true, true, true, true, true, true, true, true, true, true, true, true, true, true, true, true, true, true, true, true, true, true, true, true, true, true, true, true, true, true, true, true, true, true, true, true, false, true, true, true, true, true, true, true, true, true, true, true, true, true, false, true, true, true] (by kernel_rfl) (by kernel_rfl) (⟨_, rfl, hB12.drew, EntsAt.range (hRr.bel (bdrew hbB2)) hL32 hx, EntsAt.range (hAe.bel (bdrew hbB2)) hL32 hx, EntsAt.range (hAe.bel (bdrew hbB2)) hL32 hy⟩) ?_
              obtain ⟨w17, hw_⟩ : ∃ w17 : World, w17 = World.drew w16 := ⟨_, rfl⟩
              rw [← hw_]
              have hb : Below w16.heap.size w16 w17 := by rw [hw_]; exact bdrew (Below.refl _ _)
              clear hw_
              have hS := hb
              replace hbw := bthen hbw hb
              replace hbB2 := bthen hbB2 hb
              replace hB3 := hB3.bel hb
              replace hB5 := hB5.bel hb
              replace hB12 := hB12.bel hb
              have hz_w17 := hb.size
              clear hb
              refine oY rfl (fun W_ hW_ => (X.move rfl)) rfl ?_
              refine oY rfl (fun W_ hW_ => (X.move rfl)) rfl ?_
              refine oY rfl (fun W_ hW_ => (X.idxA rfl rfl Try.underlying69 siz90 rfl (by omega))) rfl ?_
              refine oY rfl (fun W_ hW_ => (X.ldN (cs := x.cells) rfl Try.underlying90 rfl (by rw [Ent.cells_length hxs]; exact siz90) (by obtain ⟨gz, rfl, k1, k2, k3⟩ := hW_; exact k2))) rfl ?_
              refine oY rfl (fun W_ hW_ => (X.move rfl)) rfl ?_
              refine oY rfl (fun W_ hW_ => (X.move rfl)) rfl ?_
              refine oY rfl (fun W_ hW_ => (X.idxA rfl rfl Try.underlying69 siz90 rfl (by omega))) rfl ?_
              refine oY rfl (fun W_ hW_ => (X.ldN (cs := x.cells) rfl Try.underlying90 rfl (by rw [Ent.cells_length hxs]; exact siz90) (by obtain ⟨gz, rfl, k1, k2, k3, k4⟩ := hW_; exact k3))) rfl ?_
              refine oY rfl (fun W_ hW_ => (X.neEnt hxs hxs rfl rfl)) rfl ?_
              refine oY rfl (fun W_ hW_ => (X.mvB (c := false) rfl (by simp))) rfl ?_
              refine oYg (g := 82) rfl rfl rfl rfl (fun W_ hW_ => (X.move rfl)) rfl ?_
              refine oYg (g := 82) rfl rfl rfl rfl (fun W_ hW_ => (X.not rfl)) rfl ?_
              refine oY rfl (fun W_ hW_ => (X.pickF rfl rfl)) rfl ?_
              refine oY rfl (fun W_ hW_ => (X.mvB (c := false) rfl (rfl))) rfl ?_
              refine oYg (g := 86) rfl rfl rfl rfl (fun W_ hW_ => (X.ldBNe (cs := x.cells.toArray) rfl (by obtain ⟨gz, rfl, k1, k2, k3⟩ := hW_; exact k1) Try.underlying90 rfl (by rw [Ent.size hxs]; exact siz90))) rfl ?_
              refine oYg (g := 86) rfl rfl rfl rfl (fun W_ hW_ => (X.move rfl)) rfl ?_
              refine oYg (g := 86) rfl rfl rfl rfl (fun W_ hW_ => (X.move rfl)) rfl ?_
              refine oYg (g := 86) rfl rfl rfl rfl (fun W_ hW_ => (X.idxA rfl rfl Try.underlying69 siz90 rfl (by omega))) rfl ?_
              refine oYg (g := 86) rfl rfl rfl rfl (fun W_ hW_ => (X.ldN (cs := x.cells) rfl Try.underlying90 rfl (by rw [Ent.cells_length hxs]; exact siz90) (by obtain ⟨gz, rfl, k1, k2, k3, k4⟩ := hW_; exact k3))) rfl ?_
              refine oYg (g := 86) rfl rfl rfl rfl (fun W_ hW_ => (X.neEnt hxs hxs rfl rfl)) rfl ?_
              refine oY rfl (fun W_ hW_ => (X.pickF rfl rfl)) rfl ?_
              refine oY rfl (fun W_ hW_ => (X.mvB (c := false) rfl (by simp))) rfl ?_
              refine oYg (g := 94) rfl rfl rfl rfl (fun W_ hW_ => (X.move rfl)) rfl ?_
              refine oYg (g := 94) rfl rfl rfl rfl (fun W_ hW_ => (X.gtr rfl rfl)) rfl ?_
              refine oYg (g := 94) rfl rfl rfl rfl (fun W_ hW_ => (X.mvB (c := true) rfl (decide_eq_true (by omega)))) rfl ?_
              refine oYg (g := 97) rfl rfl rfl rfl (fun W_ hW_ => (X.move rfl)) rfl ?_
              refine oYg (g := 97) rfl rfl rfl rfl (fun W_ hW_ => (X.move rfl)) rfl ?_
              refine oYg (g := 97) rfl rfl rfl rfl (fun W_ hW_ => (X.sub rfl rfl (show IntKind.i64.wrap ((i : Int) - 1) = ((i - 1 : Nat) : Int) by rw [w64 (by omega)]; omega))) rfl ?_
              refine oYg (g := 97) rfl rfl rfl rfl (fun W_ hW_ => (X.idxA rfl rfl Try.underlying69 siz90 rfl (by omega))) rfl ?_
              refine oYg (g := 97) rfl rfl rfl rfl (fun W_ hW_ => (X.fa fa90_0 rfl)) rfl ?_
              refine oYg (g := 97) rfl rfl rfl rfl (fun W_ hW_ => (X.ldN (cs := y.sum.map bv) rfl Try.underlying36 rfl (by rw [List.length_map, hys]; exact siz36) (by obtain ⟨gz, rfl, k1, k2, k3, k4⟩ := hW_; exact entRange k4))) rfl ?_
              refine oYg (g := 97) rfl rfl rfl rfl (fun W_ hW_ => (X.move rfl)) rfl ?_
              refine oYg (g := 97) rfl rfl rfl rfl (fun W_ hW_ => (X.move rfl)) rfl ?_
              refine oYg (g := 97) rfl rfl rfl rfl (fun W_ hW_ => (X.idxA rfl rfl Try.underlying69 siz90 rfl (by omega))) rfl ?_
              refine oYg (g := 97) rfl rfl rfl rfl (fun W_ hW_ => (X.fa fa90_0 rfl)) rfl ?_
              refine oYg (g := 97) rfl rfl rfl rfl (fun W_ hW_ => (X.ldN (cs := x.sum.map bv) rfl Try.underlying36 rfl (by rw [List.length_map, hxs]; exact siz36) (by obtain ⟨gz, rfl, k1, k2, k3, k4⟩ := hW_; exact entRange k3))) rfl ?_
              refine oL rfl (fun Q_ hQ_ hP_ => ?_)
              refine gY (g := 97) rfl rfl rfl ?_
              refine sc _ Try.func59 rfl (by kernel_rfl) rfl rfl ((Less_any y.sum x.sum hys hxs _).mono ?_)
              rintro e_ w18 ⟨rfl, hb⟩
              refine cR ?_
              replace hbw := bthen hbw hb
              replace hbB2 := bthen hbB2 hb
              replace hB3 := hB3.bel hb
              replace hB5 := hB5.bel hb
              replace hB12 := hB12.bel hb
              have hz_w18 := hb.size
              clear hb
              refine Wn (hQ_ _ _ (⟨_, rfl, hB12, EntsAt.range (hRr.bel hbB2) hL32 hx, EntsAt.range (hAe.bel hbB2) hL32 hx, EntsAt.range (hAe.bel hbB2) hL32 hy⟩) ?_)
              clear hQ_ hP_ Q_
              refine oYg (g := 97) rfl rfl rfl rfl (fun W_ hW_ => (X.not rfl)) rfl ?_
              refine oYg (g := 97) rfl rfl rfl rfl (fun W_ hW_ => (X.mvB (c := false) rfl (by rw [decide_eq_true hyx]; rfl))) rfl ?_
              refine oYg (g := 111) rfl rfl rfl rfl (fun W_ hW_ => (X.move rfl)) rfl ?_
              refine oYg (g := 111) rfl rfl rfl rfl (fun W_ hW_ => (X.move rfl)) rfl ?_
              refine oYg (g := 111) rfl rfl rfl rfl (fun W_ hW_ => (X.idxA rfl rfl Try.underlying69 siz90 rfl (by omega))) rfl ?_
              refine oYg (g := 111) rfl rfl rfl rfl (fun W_ hW_ => (X.fa fa90_0 rfl)) rfl ?_
              refine oYg (g := 111) rfl rfl rfl rfl (fun W_ hW_ => (X.ldN (cs := x.sum.map bv) rfl Try.underlying36 rfl (by rw [List.length_map, hxs]; exact siz36) (by obtain ⟨gz, rfl, k1, k2, k3, k4⟩ := hW_; exact entRange k3))) rfl ?_
              refine oYg (g := 111) rfl rfl rfl rfl (fun W_ hW_ => (X.move rfl)) rfl ?_
              refine oYg (g := 111) rfl rfl rfl rfl (fun W_ hW_ => (X.move rfl)) rfl ?_
              refine oYg (g := 111) rfl rfl rfl rfl (fun W_ hW_ => (X.sub rfl rfl (show IntKind.i64.wrap ((i : Int) - 1) = ((i - 1 : Nat) : Int) by rw [w64 (by omega)]; omega))) rfl ?_
              refine oYg (g := 111) rfl rfl rfl rfl (fun W_ hW_ => (X.idxA rfl rfl Try.underlying69 siz90 rfl (by omega))) rfl ?_
              refine oYg (g := 111) rfl rfl rfl rfl (fun W_ hW_ => (X.fa fa90_0 rfl)) rfl ?_
              refine oYg (g := 111) rfl rfl rfl rfl (fun W_ hW_ => (X.ldN (cs := y.sum.map bv) rfl Try.underlying36 rfl (by rw [List.length_map, hys]; exact siz36) (by obtain ⟨gz, rfl, k1, k2, k3, k4⟩ := hW_; exact entRange k4))) rfl ?_
              refine oL rfl (fun Q_ hQ_ hP_ => ?_)
              refine gY (g := 111) rfl rfl rfl ?_
              refine sc _ Try.func59 rfl (by kernel_rfl) rfl rfl ((Less_any x.sum y.sum hxs hys _).mono ?_)
              rintro e_ w19 ⟨rfl, hb⟩
              refine cR ?_
              replace hbw := bthen hbw hb
              replace hbB2 := bthen hbB2 hb
              replace hB3 := hB3.bel hb
              replace hB5 := hB5.bel hb
              replace hB12 := hB12.bel hb
              have hz_w19 := hb.size
              clear hb
              refine Wn (hQ_ _ _ (⟨_, rfl, hB12, EntsAt.range (hRr.bel hbB2) hL32 hx, EntsAt.range (hAe.bel hbB2) hL32 hx, EntsAt.range (hAe.bel hbB2) hL32 hy⟩) ?_)
              clear hQ_ hP_ Q_
              refine oYg (g := 97) rfl rfl rfl rfl (fun W_ hW_ => (X.pickF rfl rfl)) rfl ?_
              refine oYg (g := 94) rfl rfl rfl rfl (fun W_ hW_ => (X.pickT rfl rfl)) rfl ?_
              refine oY rfl (fun W_ hW_ => (X.pickF rfl rfl)) rfl ?_
              refine oN ?_
              refine nN ?_
              refine W_no rfl (decide_eq_false (klt_asymm hyx)) ?_
              refine W_skip ?_
              refine tN ?_
              by_cases hsp_ : th = false
              · refine W_drN (fun W_ => Blk W_ g3 36 (s.map bv).toArray ∧ W_.rangeAt g1 (o1 + i * 35 + 0) (x.sum.map bv)) [0, 1, 2, 3, 4, 5, 6, 7, 8, 9, 10] [true, true, true, true, true, true, true, true, true, true, true] (by kernel_rfl) (by kernel_rfl) (⟨hB3.drew, EntsAt.sum (hAe.bel (bdrew hbB2)) hL32 hx⟩) ?_
                obtain ⟨w20, hw_⟩ : ∃ w20 : World, w20 = World.drew w19 := ⟨_, rfl⟩
                rw [← hw_]
                have hb : Below w19.heap.size w19 w20 := by rw [hw_]; exact bdrew (Below.refl _ _)
                clear hw_
                have hS := hb
                replace hbw := bthen hbw hb
                replace hbB2 := bthen hbB2 hb
                replace hB3 := hB3.bel hb
                replace hB5 := hB5.bel hb
                replace hB12 := hB12.bel hb
                have hz_w20 := hb.size
                clear hb
                subst hsp_
                refine oY rfl (fun W_ hW_ => (X.move rfl)) rfl ?_
                refine oY rfl (fun W_ hW_ => (X.mvB (c := false) rfl (rfl))) rfl ?_
                refine oYg (g := 128) rfl rfl rfl rfl (fun W_ hW_ => (X.move rfl)) rfl ?_
                refine oYg (g := 128) rfl rfl rfl rfl (fun W_ hW_ => (X.move rfl)) rfl ?_
                refine oYg (g := 128) rfl rfl rfl rfl (fun W_ hW_ => (X.idxA rfl rfl Try.underlying69 siz90 rfl (by omega))) rfl ?_
                refine oYg (g := 128) rfl rfl rfl rfl (fun W_ hW_ => (X.fa fa90_0 rfl)) rfl ?_
                refine oYg (g := 128) rfl rfl rfl rfl (fun W_ hW_ => (X.ldN (cs := x.sum.map bv) rfl Try.underlying36 rfl (by rw [List.length_map, hxs]; exact siz36) hW_.2)) rfl ?_
                refine oYg (g := 128) rfl rfl rfl rfl (fun W_ hW_ => (X.ldBN (cs := (s.map bv).toArray) rfl hW_.1 Try.underlying36 rfl hss)) rfl ?_
                refine oYg (g := 128) rfl rfl rfl rfl (fun W_ hW_ => (X.eqSumF hxs hs rfl rfl)) rfl ?_
                refine oY rfl (fun W_ hW_ => (X.pickF rfl rfl)) rfl ?_
                refine oY rfl (fun W_ hW_ => (X.assign rfl)) rfl ?_
                refine oN ?_
                refine nN ?_
                refine bN ?_
                refine tN ?_
                refine W_reg ?_
                obtain ⟨th', hthv⟩ : ∃ th', th' = (x.sum == s) := ⟨_, rfl⟩
                have hth' : th' = (L.take (i + 1)).any p := by rw [any_take' p hx, ← hth, Bool.false_or, hthv, ← hp]
                refine sm rfl rfl ?_
                refine st (X.add64 rfl rfl (by omega)) rfl ?_
                refine sa rfl rfl ?_
                refine Wn ?_
                refine tN ⟨_, _, ?_, ⟨i + 1, th', rfl, rfl, by omega, hth', hB3, hB5, hbB2, hbw⟩, ⟨rfl, rfl, rfl, rfl, rfl, by rw [hthv]; rfl, rfl, trivial⟩⟩
                omega
              · refine W_drN (fun _ => True) [0, 1, 2, 3, 4, 5, 6, 7, 8, 9, 10] [true, true, true, true, true, true, true, true, true, true, true] (by kernel_rfl) (by kernel_rfl) (trivial) ?_
                obtain ⟨w21, hw_⟩ : ∃ w21 : World, w21 = World.drew w19 := ⟨_, rfl⟩
                rw [← hw_]
                have hb : Below w19.heap.size w19 w21 := by rw [hw_]; exact bdrew (Below.refl _ _)
                clear hw_
                have hS : True := trivial
                replace hbw := bthen hbw hb
                replace hbB2 := bthen hbB2 hb
                replace hB3 := hB3.bel hb
                replace hB5 := hB5.bel hb
                replace hB12 := hB12.bel hb
                have hz_w21 := hb.size
                clear hb
                obtain rfl : th = true := by simpa using hsp_
                refine oY rfl (fun W_ hW_ => (X.move rfl)) rfl ?_
                refine oY rfl (fun W_ hW_ => (X.mvB (c := true) rfl (rfl))) rfl ?_
                refine oNg (g := 128) rfl rfl rfl rfl hS rfl ?_
                refine oNg (g := 128) rfl rfl rfl rfl hS rfl ?_
                refine oNg (g := 128) rfl rfl rfl rfl hS rfl ?_
                refine oNg (g := 128) rfl rfl rfl rfl hS rfl ?_
                refine oNg (g := 128) rfl rfl rfl rfl hS rfl ?_
                refine oNg (g := 128) rfl rfl rfl rfl hS rfl ?_
                refine oNg (g := 128) rfl rfl rfl rfl hS rfl ?_
                refine oY rfl (fun W_ hW_ => (X.pickT rfl rfl)) rfl ?_
                refine oY rfl (fun W_ hW_ => (X.assign rfl)) rfl ?_
                refine oN ?_
                refine nN ?_
                refine bN ?_
                refine tN ?_
                refine W_reg ?_
                obtain ⟨th', hthv⟩ : ∃ th', th' = true := ⟨_, rfl⟩
                have hth' : th' = (L.take (i + 1)).any p := by rw [any_take' p hx, ← hth, Bool.true_or, hthv]
                refine sm rfl rfl ?_
                refine st (X.add64 rfl rfl (by omega)) rfl ?_
                refine sa rfl rfl ?_
                refine Wn ?_
                refine tN ⟨_, _, ?_, ⟨i + 1, th', rfl, rfl, by omega, hth', hB3, hB5, hbB2, hbw⟩, ⟨rfl, rfl, rfl, rfl, rfl, by rw [hthv]; rfl, rfl, trivial⟩⟩
                omega
            · refine W_drsN (fun W_ => ∃ gz, gz = g12 ∧ Blk W_ gz 90 x.cells.toArray ∧ W_.rangeAt g2 (o2 + i * 35) x.cells ∧ W_.rangeAt g1 (o1 + i * 35) x.cells) [0, 1, 2, 3, 4, 5, 6, 7, 8, 9, 10, 11, 12, 13, 14, 15, 16, 17, 18, 19, 20, 21, 22, 23, 24, 25, 26, 27, 28, 29, 30, 31, 32, 33, 34, 35, 36, 37, 38, 39, 40, 41, 42, 43, 44, 45, 46, 47, 48, 49, 50, 51, 52, 53] [true, true, true, true, true, true, true, true, true, true, true, true, true, true, true, true, true, true, true, true, true, true, true, true, true, true, true, true, true, true, true, true, true, true, true, true, false, true, true, true, true, true, true, true, true, true, true, true, true, true, false, true, true, true] (by kernel_rfl) (by kernel_rfl) (⟨_, rfl, hB12.drew, EntsAt.range (hRr.bel (bdrew hbB2)) hL32 hx, EntsAt.range (hAe.bel (bdrew hbB2)) hL32 hx⟩) ?_
              obtain ⟨w22, hw_⟩ : ∃ w22 : World, w22 = World.drew w16 := ⟨_, rfl⟩
              rw [← hw_]
              have hb : Below w16.heap.size w16 w22 := by rw [hw_]; exact bdrew (Below.refl _ _)
              clear hw_
              have hS := hb
              replace hbw := bthen hbw hb
              replace hbB2 := bthen hbB2 hb
              replace hB3 := hB3.bel hb
              replace hB5 := hB5.bel hb
              replace hB12 := hB12.bel hb
              have hz_w22 := hb.size
              clear hb
              refine oY rfl (fun W_ hW_ => (X.move rfl)) rfl ?_
              refine oY rfl (fun W_ hW_ => (X.move rfl)) rfl ?_
              refine oY rfl (fun W_ hW_ => (X.idxA rfl rfl Try.underlying69 siz90 rfl (by omega))) rfl ?_
              refine oY rfl (fun W_ hW_ => (X.ldN (cs := x.cells) rfl Try.underlying90 rfl (by rw [Ent.cells_length hxs]; exact siz90) (by obtain ⟨gz, rfl, k1, k2, k3⟩ := hW_; exact k2))) rfl ?_
              refine oY rfl (fun W_ hW_ => (X.move rfl)) rfl ?_
              refine oY rfl (fun W_ hW_ => (X.move rfl)) rfl ?_
              refine oY rfl (fun W_ hW_ => (X.idxA rfl rfl Try.underlying69 siz90 rfl (by omega))) rfl ?_
              refine oY rfl (fun W_ hW_ => (X.ldN (cs := x.cells) rfl Try.underlying90 rfl (by rw [Ent.cells_length hxs]; exact siz90) (by obtain ⟨gz, rfl, k1, k2, k3⟩ := hW_; exact k3))) rfl ?_
              refine oY rfl (fun W_ hW_ => (X.neEnt hxs hxs rfl rfl)) rfl ?_
              refine oY rfl (fun W_ hW_ => (X.mvB (c := false) rfl (by simp))) rfl ?_
              refine oYg (g := 82) rfl rfl rfl rfl (fun W_ hW_ => (X.move rfl)) rfl ?_
              refine oYg (g := 82) rfl rfl rfl rfl (fun W_ hW_ => (X.not rfl)) rfl ?_
              refine oY rfl (fun W_ hW_ => (X.pickF rfl rfl)) rfl ?_
              refine oY rfl (fun W_ hW_ => (X.mvB (c := false) rfl (rfl))) rfl ?_
              refine oYg (g := 86) rfl rfl rfl rfl (fun W_ hW_ => (X.ldBNe (cs := x.cells.toArray) rfl (by obtain ⟨gz, rfl, k1, k2, k3⟩ := hW_; exact k1) Try.underlying90 rfl (by rw [Ent.size hxs]; exact siz90))) rfl ?_
              refine oYg (g := 86) rfl rfl rfl rfl (fun W_ hW_ => (X.move rfl)) rfl ?_
              refine oYg (g := 86) rfl rfl rfl rfl (fun W_ hW_ => (X.move rfl)) rfl ?_
              refine oYg (g := 86) rfl rfl rfl rfl (fun W_ hW_ => (X.idxA rfl rfl Try.underlying69 siz90 rfl (by omega))) rfl ?_
              refine oYg (g := 86) rfl rfl rfl rfl (fun W_ hW_ => (X.ldN (cs := x.cells) rfl Try.underlying90 rfl (by rw [Ent.cells_length hxs]; exact siz90) (by obtain ⟨gz, rfl, k1, k2, k3⟩ := hW_; exact k3))) rfl ?_
              refine oYg (g := 86) rfl rfl rfl rfl (fun W_ hW_ => (X.neEnt hxs hxs rfl rfl)) rfl ?_
              refine oY rfl (fun W_ hW_ => (X.pickF rfl rfl)) rfl ?_
              refine oY rfl (fun W_ hW_ => (X.mvB (c := false) rfl (by simp))) rfl ?_
              refine oYg (g := 94) rfl rfl rfl rfl (fun W_ hW_ => (X.move rfl)) rfl ?_
              refine oYg (g := 94) rfl rfl rfl rfl (fun W_ hW_ => (X.gtr rfl rfl)) rfl ?_
              refine oYg (g := 94) rfl rfl rfl rfl (fun W_ hW_ => (X.mvB (c := false) rfl (decide_eq_false (by omega)))) rfl ?_
              refine oNg (g := 97) rfl rfl rfl rfl (⟨_, rfl, hB12, EntsAt.range (hRr.bel hbB2) hL32 hx, EntsAt.range (hAe.bel hbB2) hL32 hx⟩) rfl ?_
              refine oNg (g := 97) rfl rfl rfl rfl (⟨_, rfl, hB12, EntsAt.range (hRr.bel hbB2) hL32 hx, EntsAt.range (hAe.bel hbB2) hL32 hx⟩) rfl ?_
              refine oNg (g := 97) rfl rfl rfl rfl (⟨_, rfl, hB12, EntsAt.range (hRr.bel hbB2) hL32 hx, EntsAt.range (hAe.bel hbB2) hL32 hx⟩) rfl ?_
              refine oNg (g := 97) rfl rfl rfl rfl (⟨_, rfl, hB12, EntsAt.range (hRr.bel hbB2) hL32 hx, EntsAt.range (hAe.bel hbB2) hL32 hx⟩) rfl ?_
              refine oNg (g := 97) rfl rfl rfl rfl (⟨_, rfl, hB12, EntsAt.range (hRr.bel hbB2) hL32 hx, EntsAt.range (hAe.bel hbB2) hL32 hx⟩) rfl ?_
              refine oNg (g := 97) rfl rfl rfl rfl (⟨_, rfl, hB12, EntsAt.range (hRr.bel hbB2) hL32 hx, EntsAt.range (hAe.bel hbB2) hL32 hx⟩) rfl ?_
              refine oNg (g := 97) rfl rfl rfl rfl (⟨_, rfl, hB12, EntsAt.range (hRr.bel hbB2) hL32 hx, EntsAt.range (hAe.bel hbB2) hL32 hx⟩) rfl ?_
              refine oNg (g := 97) rfl rfl rfl rfl (⟨_, rfl, hB12, EntsAt.range (hRr.bel hbB2) hL32 hx, EntsAt.range (hAe.bel hbB2) hL32 hx⟩) rfl ?_
              refine oNg (g := 97) rfl rfl rfl rfl (⟨_, rfl, hB12, EntsAt.range (hRr.bel hbB2) hL32 hx, EntsAt.range (hAe.bel hbB2) hL32 hx⟩) rfl ?_
              refine oNg (g := 97) rfl rfl rfl rfl (⟨_, rfl, hB12, EntsAt.range (hRr.bel hbB2) hL32 hx, EntsAt.range (hAe.bel hbB2) hL32 hx⟩) rfl ?_
              refine oNg (g := 97) rfl rfl rfl rfl (⟨_, rfl, hB12, EntsAt.range (hRr.bel hbB2) hL32 hx, EntsAt.range (hAe.bel hbB2) hL32 hx⟩) rfl ?_
              refine oNg (g := 97) rfl rfl rfl rfl (⟨_, rfl, hB12, EntsAt.range (hRr.bel hbB2) hL32 hx, EntsAt.range (hAe.bel hbB2) hL32 hx⟩) rfl ?_
              refine oNg (g := 97) rfl rfl rfl rfl (⟨_, rfl, hB12, EntsAt.range (hRr.bel hbB2) hL32 hx, EntsAt.range (hAe.bel hbB2) hL32 hx⟩) rfl ?_
              refine oNg (g := 97) rfl rfl rfl rfl (⟨_, rfl, hB12, EntsAt.range (hRr.bel hbB2) hL32 hx, EntsAt.range (hAe.bel hbB2) hL32 hx⟩) rfl ?_
              refine oNu (g := 111) rfl rfl rfl rfl (⟨_, rfl, hB12, EntsAt.range (hRr.bel hbB2) hL32 hx, EntsAt.range (hAe.bel hbB2) hL32 hx⟩) rfl ?_
              refine oNu (g := 111) rfl rfl rfl rfl (⟨_, rfl, hB12, EntsAt.range (hRr.bel hbB2) hL32 hx, EntsAt.range (hAe.bel hbB2) hL32 hx⟩) rfl ?_
              refine oNu (g := 111) rfl rfl rfl rfl (⟨_, rfl, hB12, EntsAt.range (hRr.bel hbB2) hL32 hx, EntsAt.range (hAe.bel hbB2) hL32 hx⟩) rfl ?_
              refine oNu (g := 111) rfl rfl rfl rfl (⟨_, rfl, hB12, EntsAt.range (hRr.bel hbB2) hL32 hx, EntsAt.range (hAe.bel hbB2) hL32 hx⟩) rfl ?_
              refine oNu (g := 111) rfl rfl rfl rfl (⟨_, rfl, hB12, EntsAt.range (hRr.bel hbB2) hL32 hx, EntsAt.range (hAe.bel hbB2) hL32 hx⟩) rfl ?_
              refine oNu (g := 111) rfl rfl rfl rfl (⟨_, rfl, hB12, EntsAt.range (hRr.bel hbB2) hL32 hx, EntsAt.range (hAe.bel hbB2) hL32 hx⟩) rfl ?_
              refine oNu (g := 111) rfl rfl rfl rfl (⟨_, rfl, hB12, EntsAt.range (hRr.bel hbB2) hL32 hx, EntsAt.range (hAe.bel hbB2) hL32 hx⟩) rfl ?_
              refine oNu (g := 111) rfl rfl rfl rfl (⟨_, rfl, hB12, EntsAt.range (hRr.bel hbB2) hL32 hx, EntsAt.range (hAe.bel hbB2) hL32 hx⟩) rfl ?_
              refine oNu (g := 111) rfl rfl rfl rfl (⟨_, rfl, hB12, EntsAt.range (hRr.bel hbB2) hL32 hx, EntsAt.range (hAe.bel hbB2) hL32 hx⟩) rfl ?_
              refine oNu (g := 111) rfl rfl rfl rfl (⟨_, rfl, hB12, EntsAt.range (hRr.bel hbB2) hL32 hx, EntsAt.range (hAe.bel hbB2) hL32 hx⟩) rfl ?_
              refine oNu (g := 111) rfl rfl rfl rfl (⟨_, rfl, hB12, EntsAt.range (hRr.bel hbB2) hL32 hx, EntsAt.range (hAe.bel hbB2) hL32 hx⟩) rfl ?_
              refine oNu (g := 111) rfl rfl rfl rfl (⟨_, rfl, hB12, EntsAt.range (hRr.bel hbB2) hL32 hx, EntsAt.range (hAe.bel hbB2) hL32 hx⟩) rfl ?_
              refine oNg (g := 97) rfl rfl rfl rfl (⟨_, rfl, hB12, EntsAt.range (hRr.bel hbB2) hL32 hx, EntsAt.range (hAe.bel hbB2) hL32 hx⟩) rfl ?_
              refine oYg (g := 94) rfl rfl rfl rfl (fun W_ hW_ => (X.pickF rfl rfl)) rfl ?_
              refine oY rfl (fun W_ hW_ => (X.pickF rfl rfl)) rfl ?_
              refine oN ?_
              refine nN ?_
              refine W_no rfl (rfl) ?_
              refine W_skip ?_
              refine tN ?_
              by_cases hsp_ : th = false
              · refine W_drN (fun W_ => Blk W_ g3 36 (s.map bv).toArray ∧ W_.rangeAt g1 (o1 + i * 35 + 0) (x.sum.map bv)) [0, 1, 2, 3, 4, 5, 6, 7, 8, 9, 10] [true, true, true, true, true, true, true, true, true, true, true] (by kernel_rfl) (by kernel_rfl) (⟨hB3.drew, EntsAt.sum (hAe.bel (bdrew hbB2)) hL32 hx⟩) ?_
                obtain ⟨w23, hw_⟩ : ∃ w23 : World, w23 = World.drew w22 := ⟨_, rfl⟩
                rw [← hw_]
                have hb : Below w22.heap.size w22 w23 := by rw [hw_]; exact bdrew (Below.refl _ _)
                clear hw_
                have hS := hb
                replace hbw := bthen hbw hb
                replace hbB2 := bthen hbB2 hb
                replace hB3 := hB3.bel hb
                replace hB5 := hB5.bel hb
                replace hB12 := hB12.bel hb
                have hz_w23 := hb.size
                clear hb
                subst hsp_
                refine oY rfl (fun W_ hW_ => (X.move rfl)) rfl ?_
                refine oY rfl (fun W_ hW_ => (X.mvB (c := false) rfl (rfl))) rfl ?_
                refine oYg (g := 128) rfl rfl rfl rfl (fun W_ hW_ => (X.move rfl)) rfl ?_
                refine oYg (g := 128) rfl rfl rfl rfl (fun W_ hW_ => (X.move rfl)) rfl ?_
                refine oYg (g := 128) rfl rfl rfl rfl (fun W_ hW_ => (X.idxA rfl rfl Try.underlying69 siz90 rfl (by omega))) rfl ?_
                refine oYg (g := 128) rfl rfl rfl rfl (fun W_ hW_ => (X.fa fa90_0 rfl)) rfl ?_
                refine oYg (g := 128) rfl rfl rfl rfl (fun W_ hW_ => (X.ldN (cs := x.sum.map bv) rfl Try.underlying36 rfl (by rw [List.length_map, hxs]; exact siz36) hW_.2)) rfl ?_
                refine oYg (g := 128) rfl rfl rfl rfl (fun W_ hW_ => (X.ldBN (cs := (s.map bv).toArray) rfl hW_.1 Try.underlying36 rfl hss)) rfl ?_
                refine oYg (g := 128) rfl rfl rfl rfl (fun W_ hW_ => (X.eqSumF hxs hs rfl rfl)) rfl ?_
                refine oY rfl (fun W_ hW_ => (X.pickF rfl rfl)) rfl ?_
                refine oY rfl (fun W_ hW_ => (X.assign rfl)) rfl ?_
                refine oN ?_
                refine nN ?_
                refine bN ?_
                refine tN ?_
                refine W_reg ?_
                obtain ⟨th', hthv⟩ : ∃ th', th' = (x.sum == s) := ⟨_, rfl⟩
                have hth' : th' = (L.take (i + 1)).any p := by rw [any_take' p hx, ← hth, Bool.false_or, hthv, ← hp]
                refine sm rfl rfl ?_
                refine st (X.add64 rfl rfl (by omega)) rfl ?_
                refine sa rfl rfl ?_
                refine Wn ?_
                refine tN ⟨_, _, ?_, ⟨i + 1, th', rfl, rfl, by omega, hth', hB3, hB5, hbB2, hbw⟩, ⟨rfl, rfl, rfl, rfl, rfl, by rw [hthv]; rfl, rfl, trivial⟩⟩
                omega
              · refine W_drN (fun _ => True) [0, 1, 2, 3, 4, 5, 6, 7, 8, 9, 10] [true, true, true, true, true, true, true, true, true, true, true] (by kernel_rfl) (by kernel_rfl) (trivial) ?_
                obtain ⟨w24, hw_⟩ : ∃ w24 : World, w24 = World.drew w22 := ⟨_, rfl⟩
                rw [← hw_]
                have hb : Below w22.heap.size w22 w24 := by rw [hw_]; exact bdrew (Below.refl _ _)
                clear hw_
                have hS : True := trivial
                replace hbw := bthen hbw hb
                replace hbB2 := bthen hbB2 hb
                replace hB3 := hB3.bel hb
                replace hB5 := hB5.bel hb
                replace hB12 := hB12.bel hb
                have hz_w24 := hb.size
                clear hb
                obtain rfl : th = true := by simpa using hsp_
                refine oY rfl (fun W_ hW_ => (X.move rfl)) rfl ?_
                refine oY rfl (fun W_ hW_ => (X.mvB (c := true) rfl (rfl))) rfl ?_
                refine oNg (g := 128) rfl rfl rfl rfl hS rfl ?_
                refine oNg (g := 128) rfl rfl rfl rfl hS rfl ?_
                refine oNg (g := 128) rfl rfl rfl rfl hS rfl ?_
                refine oNg (g := 128) rfl rfl rfl rfl hS rfl ?_
                refine oNg (g := 128) rfl rfl rfl rfl hS rfl ?_
                refine oNg (g := 128) rfl rfl rfl rfl hS rfl ?_
                refine oNg (g := 128) rfl rfl rfl rfl hS rfl ?_
                refine oY rfl (fun W_ hW_ => (X.pickT rfl rfl)) rfl ?_
                refine oY rfl (fun W_ hW_ => (X.assign rfl)) rfl ?_
                refine oN ?_
                refine nN ?_
                refine bN ?_
                refine tN ?_
                refine W_reg ?_
                obtain ⟨th', hthv⟩ : ∃ th', th' = true := ⟨_, rfl⟩
                have hth' : th' = (L.take (i + 1)).any p := by rw [any_take' p hx, ← hth, Bool.true_or, hthv]
                refine sm rfl rfl ?_
                refine st (X.add64 rfl rfl (by omega)) rfl ?_
                refine sa rfl rfl ?_
                refine Wn ?_
                refine tN ⟨_, _, ?_, ⟨i + 1, th', rfl, rfl, by omega, hth', hB3, hB5, hbB2, hbw⟩, ⟨rfl, rfl, rfl, rfl, rfl, by rw [hthv]; rfl, rfl, trivial⟩⟩
                omega
          · refine salA inf90 rfl (fun g12 w25 hB12 hg12 hb hl12 => ?_)
            replace hbw := bthen hbw hb
            replace hbB2 := bthen hbB2 hb
            replace hB3 := hB3.bel hb
            replace hB5 := hB5.bel hb
            have hz_w25 := hb.size
            clear hb
            refine Wn (hQ_ _ _ (⟨hB5, EntsAt.sum (hAe.bel hbB2) hL32 hx⟩) ?_)
            clear hQ_ hP_ Q_
            refine uP (uA rfl (fun Q_ hQ_ hP_ => ?_) u0)
            refine sc _ Try.func57 rfl (by kernel_rfl) rfl rfl ((Find_any _ L x.sum _ (hEe.bel hbB2) hL32 hLu hxs (by omega)).mono ?_)
            rintro e_ w26 ⟨rfl, hb⟩
            refine cR ?_
            replace hbw := bthen hbw hb
            replace hbB2 := bthen hbB2 hb
            replace hB3 := hB3.bel hb
            replace hB5 := hB5.bel hb
            replace hB12 := hB12.bel hb
            have hz_w26 := hb.size
            clear hb
            refine Wn (hQ_ _ _ (⟨hB5, EntsAt.sum (hAe.bel hbB2) hL32 hx⟩) ?_)
            clear hQ_ hP_ Q_
            rw [hfx]
            refine uY rfl (fun W_ hW_ => (X.move rfl)) rfl ?_
            refine uY rfl (fun W_ hW_ => (X.ext rfl rfl)) rfl ?_
            refine uY rfl (fun W_ hW_ => (X.ext rfl rfl)) rfl ?_
            refine uP (uA rfl (fun Q_ hQ_ hP_ => ?_) u0)
            refine ssBN rfl rfl hB12 (by rw [Ent.size (show ((some x).getD eZ).sum.length = 32 from hxs)]; exact siz90) (by rw [Ent.size (show ((some x).getD eZ).sum.length = 32 from hxs)]; rfl) (Ent.cells_one _) (fun w27 hB_ hc_ => ?_)
            replace hB12 := hB_
            clear hB_
            replace hB3 := hB3.chg hc_ (by first | (show ¬ _ = _; omega) | (intro k_ hk_; simp [Value.ownBlock] at hk_; subst hk_; show ¬ _ = _; omega))
            replace hB5 := hB5.chg hc_ (by first | (show ¬ _ = _; omega) | (intro k_ hk_; simp [Value.ownBlock] at hk_; subst hk_; show ¬ _ = _; omega))
            replace hbw := bset hbw hc_ (by omega)
            replace hbB2 := bset hbB2 hc_ (by omega)
            have hz_w27 := hc_.size
            clear hc_
            refine Wn (hQ_ _ _ (⟨hB5, EntsAt.sum (hAe.bel hbB2) hL32 hx⟩) ?_)
            clear hQ_ hP_ Q_
            refine uY rfl (fun W_ hW_ => (X.assign rfl)) rfl ?_
            refine uN ?_
            refine nN ?_
            refine W_seq ?_
            by_cases hsp_ : 0 < i
            · obtain ⟨y, hy⟩ : ∃ y, L[i - 1]? = some y := ⟨_, List.getElem?_eq_getElem (by omega)⟩
              have hys := hL32 y (List.mem_of_getElem? hy)
              have hyx : y.sum < x.sum := hLu.at_ hy hx (by omega)
              refine W_drsN (fun W_ => ∃ gz, gz = g12 ∧ Blk W_ gz 90 x.cells.toArray ∧ W_.rangeAt g2 (o2 + i * 35) x.cells ∧ W_.rangeAt g1 (o1 + i * 35) x.cells ∧ W_.rangeAt g1 (o1 + (i - 1) * 35) y.cells) [0, 1, 2, 3, 4, 5, 6, 7, 8, 9, 10, 11, 12, 13, 14, 15, 16, 17, 18, 19, 20, 21, 22, 23, 24, 25, 26, 27, 28, 29, 30, 31, 32, 33, 34, 35, 36, 37, 38, 39, 40, 41, 42, 43, 44, 45, 46, 47, 48, 49, 50, 51, 52, 53] [true, true, true, true, true, true, true, true, true, true, true, true, true, true, true, true, true, true, true, true, true, true, true, true, true, true, true, true, true, true, true, true, true, true, true, true, false, true, true, true, true, true, true, true, true, true, true, true, true, true, false, true, true, true] (by kernel_rfl) (by kernel_rfl) (⟨_, rfl, hB12.drew, EntsAt.range (hRr.bel (bdrew hbB2)) hL32 hx, EntsAt.range (hAe.bel (bdrew hbB2)) hL32 hx, EntsAt.range (hAe.bel (bdrew hbB2)) hL32 hy⟩) ?_
              obtain ⟨w28, hw_⟩ : ∃ w28 : World, w28 = World.drew w27 := ⟨_, rfl⟩
              rw [← hw_]
              have hb : Below w27.heap.size w27 w28 := by rw [hw_]; exact bdrew (Below.refl _ _)
              clear hw_
              have hS := hb
              replace hbw := bthen hbw hb
              replace hbB2 := bthen hbB2 hb
              replace hB3 := hB3.bel hb
              replace hB5 := hB5.bel hb
              replace hB12 := hB12.bel hb
              have hz_w28 := hb.size
              clear hb
              refine oY rfl (fun W_ hW_ => (X.move rfl)) rfl ?_
              refine oY rfl (fun W_ hW_ => (X.move rfl)) rfl ?_
              refine oY rfl (fun W_ hW_ => (X.idxA rfl rfl Try.underlying69 siz90 rfl (by omega))) rfl ?_
              refine oY rfl (fun W_ hW_ => (X.ldN (cs := x.cells) rfl Try.underlying90 rfl (by rw [Ent.cells_length hxs]; exact siz90) (by obtain ⟨gz, rfl, k1, k2, k3⟩ := hW_; exact k2))) rfl ?_
              refine oY rfl (fun W_ hW_ => (X.move rfl)) rfl ?_
              refine oY rfl (fun W_ hW_ => (X.move rfl)) rfl ?_
              refine oY rfl (fun W_ hW_ => (X.idxA rfl rfl Try.underlying69 siz90 rfl (by omega))) rfl ?_
              refine oY rfl (fun W_ hW_ => (X.ldN (cs := x.cells) rfl Try.underlying90 rfl (by rw [Ent.cells_length hxs]; exact siz90) (by obtain ⟨gz, rfl, k1, k2, k3, k4⟩ := hW_; exact k3))) rfl ?_
              refine oY rfl (fun W_ hW_ => (X.neEnt hxs hxs rfl rfl)) rfl ?_
              refine oY rfl (fun W_ hW_ => (X.mvB (c := false) rfl (by simp))) rfl ?_
              refine oYg (g := 82) rfl rfl rfl rfl (fun W_ hW_ => (X.move rfl)) rfl ?_
              refine oYg (g := 82) rfl rfl rfl rfl (fun W_ hW_ => (X.not rfl)) rfl ?_
              refine oY rfl (fun W_ hW_ => (X.pickF rfl rfl)) rfl ?_
              refine oY rfl (fun W_ hW_ => (X.mvB (c := false) rfl (rfl))) rfl ?_
              refine oYg (g := 86) rfl rfl rfl rfl (fun W_ hW_ => (X.ldBNe (cs := x.cells.toArray) rfl (by obtain ⟨gz, rfl, k1, k2, k3⟩ := hW_; exact k1) Try.underlying90 rfl (by rw [Ent.size hxs]; exact siz90))) rfl ?_
              refine oYg (g := 86) rfl rfl rfl rfl (fun W_ hW_ => (X.move rfl)) rfl ?_
              refine oYg (g := 86) rfl rfl rfl rfl (fun W_ hW_ => (X.move rfl)) rfl ?_
              refine oYg (g := 86) rfl rfl rfl rfl (fun W_ hW_ => (X.idxA rfl rfl Try.underlying69 siz90 rfl (by omega))) rfl ?_
              refine oYg (g := 86) rfl rfl rfl rfl (fun W_ hW_ => (X.ldN (cs := x.cells) rfl Try.underlying90 rfl (by rw [Ent.cells_length hxs]; exact siz90) (by obtain ⟨gz, rfl, k1, k2, k3, k4⟩ := hW_; exact k3))) rfl ?_
              refine oYg (g := 86) rfl rfl rfl rfl (fun W_ hW_ => (X.neEnt hxs hxs rfl rfl)) rfl ?_
              refine oY rfl (fun W_ hW_ => (X.pickF rfl rfl)) rfl ?_
              refine oY rfl (fun W_ hW_ => (X.mvB (c := false) rfl (by simp))) rfl ?_
              refine oYg (g := 94) rfl rfl rfl rfl (fun W_ hW_ => (X.move rfl)) rfl ?_
              refine oYg (g := 94) rfl rfl rfl rfl (fun W_ hW_ => (X.gtr rfl rfl)) rfl ?_
              refine oYg (g := 94) rfl rfl rfl rfl (fun W_ hW_ => (X.mvB (c := true) rfl (decide_eq_true (by omega)))) rfl ?_
              refine oYg (g := 97) rfl rfl rfl rfl (fun W_ hW_ => (X.move rfl)) rfl ?_
              refine oYg (g := 97) rfl rfl rfl rfl (fun W_ hW_ => (X.move rfl)) rfl ?_
              refine oYg (g := 97) rfl rfl rfl rfl (fun W_ hW_ => (X.sub rfl rfl (show IntKind.i64.wrap ((i : Int) - 1) = ((i - 1 : Nat) : Int) by rw [w64 (by omega)]; omega))) rfl ?_
              refine oYg (g := 97) rfl rfl rfl rfl (fun W_ hW_ => (X.idxA rfl rfl Try.underlying69 siz90 rfl (by omega))) rfl ?_
              refine oYg (g := 97) rfl rfl rfl rfl (fun W_ hW_ => (X.fa fa90_0 rfl)) rfl ?_
              refine oYg (g := 97) rfl rfl rfl rfl (fun W_ hW_ => (X.ldN (cs := y.sum.map bv) rfl Try.underlying36 rfl (by rw [List.length_map, hys]; exact siz36) (by obtain ⟨gz, rfl, k1, k2, k3, k4⟩ := hW_; exact entRange k4))) rfl ?_
              refine oYg (g := 97) rfl rfl rfl rfl (fun W_ hW_ => (X.move rfl)) rfl ?_
              refine oYg (g := 97) rfl rfl rfl rfl (fun W_ hW_ => (X.move rfl)) rfl ?_
              refine oYg (g := 97) rfl rfl rfl rfl (fun W_ hW_ => (X.idxA rfl rfl Try.underlying69 siz90 rfl (by omega))) rfl ?_
              refine oYg (g := 97) rfl rfl rfl rfl (fun W_ hW_ => (X.fa fa90_0 rfl)) rfl ?_
              refine oYg (g := 97) rfl rfl rfl rfl (fun W_ hW_ => (X.ldN (cs := x.sum.map bv) rfl Try.underlying36 rfl (by rw [List.length_map, hxs]; exact siz36) (by obtain ⟨gz, rfl, k1, k2, k3, k4⟩ := hW_; exact entRange k3))) rfl ?_
              refine oL rfl (fun Q_ hQ_ hP_ => ?_)
              refine gY (g := 97) rfl rfl rfl ?_
              refine sc _ Try.func59 rfl (by kernel_rfl) rfl rfl ((Less_any y.sum x.sum hys hxs _).mono ?_)
              rintro e_ w29 ⟨rfl, hb⟩
              refine cR ?_
              replace hbw := bthen hbw hb
              replace hbB2 := bthen hbB2 hb
              replace hB3 := hB3.bel hb
              replace hB5 := hB5.bel hb
              replace hB12 := hB12.bel hb
              have hz_w29 := hb.size
              clear hb
              refine Wn (hQ_ _ _ (⟨_, rfl, hB12, EntsAt.range (hRr.bel hbB2) hL32 hx, EntsAt.range (hAe.bel hbB2) hL32 hx, EntsAt.range (hAe.bel hbB2) hL32 hy⟩) ?_)
              clear hQ_ hP_ Q_
              refine oYg (g := 97) rfl rfl rfl rfl (fun W_ hW_ => (X.not rfl)) rfl ?_
              refine oYg (g := 97) rfl rfl rfl rfl (fun W_ hW_ => (X.mvB (c := false) rfl (by rw [decide_eq_true hyx]; rfl))) rfl ?_
              refine oYg (g := 111) rfl rfl rfl rfl (fun W_ hW_ => (X.move rfl)) rfl ?_
              refine oYg (g := 111) rfl rfl rfl rfl (fun W_ hW_ => (X.move rfl)) rfl ?_
              refine oYg (g := 111) rfl rfl rfl rfl (fun W_ hW_ => (X.idxA rfl rfl Try.underlying69 siz90 rfl (by omega))) rfl ?_
              refine oYg (g := 111) rfl rfl rfl rfl (fun W_ hW_ => (X.fa fa90_0 rfl)) rfl ?_
              refine oYg (g := 111) rfl rfl rfl rfl (fun W_ hW_ => (X.ldN (cs := x.sum.map bv) rfl Try.underlying36 rfl (by rw [List.length_map, hxs]; exact siz36) (by obtain ⟨gz, rfl, k1, k2, k3, k4⟩ := hW_; exact entRange k3))) rfl ?_
              refine oYg (g := 111) rfl rfl rfl rfl (fun W_ hW_ => (X.move rfl)) rfl ?_
              refine oYg (g := 111) rfl rfl rfl rfl (fun W_ hW_ => (X.move rfl)) rfl ?_
              refine oYg (g := 111) rfl rfl rfl rfl (fun W_ hW_ => (X.sub rfl rfl (show IntKind.i64.wrap ((i : Int) - 1) = ((i - 1 : Nat) : Int) by rw [w64 (by omega)]; omega))) rfl ?_
              refine oYg (g := 111) rfl rfl rfl rfl (fun W_ hW_ => (X.idxA rfl rfl Try.underlying69 siz90 rfl (by omega))) rfl ?_
              refine oYg (g := 111) rfl rfl rfl rfl (fun W_ hW_ => (X.fa fa90_0 rfl)) rfl ?_
              refine oYg (g := 111) rfl rfl rfl rfl (fun W_ hW_ => (X.ldN (cs := y.sum.map bv) rfl Try.underlying36 rfl (by rw [List.length_map, hys]; exact siz36) (by obtain ⟨gz, rfl, k1, k2, k3, k4⟩ := hW_; exact entRange k4))) rfl ?_
              refine oL rfl (fun Q_ hQ_ hP_ => ?_)
              refine gY (g := 111) rfl rfl rfl ?_
              refine sc _ Try.func59 rfl (by kernel_rfl) rfl rfl ((Less_any x.sum y.sum hxs hys _).mono ?_)
              rintro e_ w30 ⟨rfl, hb⟩
              refine cR ?_
              replace hbw := bthen hbw hb
              replace hbB2 := bthen hbB2 hb
              replace hB3 := hB3.bel hb
              replace hB5 := hB5.bel hb
              replace hB12 := hB12.bel hb
              have hz_w30 := hb.size
              clear hb
              refine Wn (hQ_ _ _ (⟨_, rfl, hB12, EntsAt.range (hRr.bel hbB2) hL32 hx, EntsAt.range (hAe.bel hbB2) hL32 hx, EntsAt.range (hAe.bel hbB2) hL32 hy⟩) ?_)
              clear hQ_ hP_ Q_
              refine oYg (g := 97) rfl rfl rfl rfl (fun W_ hW_ => (X.pickF rfl rfl)) rfl ?_
              refine oYg (g := 94) rfl rfl rfl rfl (fun W_ hW_ => (X.pickT rfl rfl)) rfl ?_
              refine oY rfl (fun W_ hW_ => (X.pickF rfl rfl)) rfl ?_
              refine oN ?_
              refine nN ?_
              refine W_no rfl (decide_eq_false (klt_asymm hyx)) ?_
              refine W_skip ?_
              refine tN ?_
              by_cases hsp_ : th = false
              · refine W_drN (fun W_ => Blk W_ g3 36 (s.map bv).toArray ∧ W_.rangeAt g1 (o1 + i * 35 + 0) (x.sum.map bv)) [0, 1, 2, 3, 4, 5, 6, 7, 8, 9, 10] [true, true, true, true, true, true, true, true, true, true, true] (by kernel_rfl) (by kernel_rfl) (⟨hB3.drew, EntsAt.sum (hAe.bel (bdrew hbB2)) hL32 hx⟩) ?_
                obtain ⟨w31, hw_⟩ : ∃ w31 : World, w31 = World.drew w30 := ⟨_, rfl⟩
                rw [← hw_]
                have hb : Below w30.heap.size w30 w31 := by rw [hw_]; exact bdrew (Below.refl _ _)
                clear hw_
                have hS := hb
                replace hbw := bthen hbw hb
                replace hbB2 := bthen hbB2 hb
                replace hB3 := hB3.bel hb
                replace hB5 := hB5.bel hb
                replace hB12 := hB12.bel hb
                have hz_w31 := hb.size
                clear hb
                subst hsp_
                refine oY rfl (fun W_ hW_ => (X.move rfl)) rfl ?_
                refine oY rfl (fun W_ hW_ => (X.mvB (c := false) rfl (rfl))) rfl ?_
                refine oYg (g := 128) rfl rfl rfl rfl (fun W_ hW_ => (X.move rfl)) rfl ?_
                refine oYg (g := 128) rfl rfl rfl rfl (fun W_ hW_ => (X.move rfl)) rfl ?_
                refine oYg (g := 128) rfl rfl rfl rfl (fun W_ hW_ => (X.idxA rfl rfl Try.underlying69 siz90 rfl (by omega))) rfl ?_
                refine oYg (g := 128) rfl rfl rfl rfl (fun W_ hW_ => (X.fa fa90_0 rfl)) rfl ?_
                refine oYg (g := 128) rfl rfl rfl rfl (fun W_ hW_ => (X.ldN (cs := x.sum.map bv) rfl Try.underlying36 rfl (by rw [List.length_map, hxs]; exact siz36) hW_.2)) rfl ?_
                refine oYg (g := 128) rfl rfl rfl rfl (fun W_ hW_ => (X.ldBN (cs := (s.map bv).toArray) rfl hW_.1 Try.underlying36 rfl hss)) rfl ?_
                refine oYg (g := 128) rfl rfl rfl rfl (fun W_ hW_ => (X.eqSumF hxs hs rfl rfl)) rfl ?_
                refine oY rfl (fun W_ hW_ => (X.pickF rfl rfl)) rfl ?_
                refine oY rfl (fun W_ hW_ => (X.assign rfl)) rfl ?_
                refine oN ?_
                refine nN ?_
                refine bN ?_
                refine tN ?_
                refine W_reg ?_
                obtain ⟨th', hthv⟩ : ∃ th', th' = (x.sum == s) := ⟨_, rfl⟩
                have hth' : th' = (L.take (i + 1)).any p := by rw [any_take' p hx, ← hth, Bool.false_or, hthv, ← hp]
                refine sm rfl rfl ?_
                refine st (X.add64 rfl rfl (by omega)) rfl ?_
                refine sa rfl rfl ?_
                refine Wn ?_
                refine tN ⟨_, _, ?_, ⟨i + 1, th', rfl, rfl, by omega, hth', hB3, hB5, hbB2, hbw⟩, ⟨rfl, rfl, rfl, rfl, rfl, by rw [hthv]; rfl, rfl, trivial⟩⟩
                omega
              · refine W_drN (fun _ => True) [0, 1, 2, 3, 4, 5, 6, 7, 8, 9, 10] [true, true, true, true, true, true, true, true, true, true, true] (by kernel_rfl) (by kernel_rfl) (trivial) ?_
                obtain ⟨w32, hw_⟩ : ∃ w32 : World, w32 = World.drew w30 := ⟨_, rfl⟩
                rw [← hw_]
                have hb : Below w30.heap.size w30 w32 := by rw [hw_]; exact bdrew (Below.refl _ _)
                clear hw_
                have hS : True := trivial
                replace hbw := bthen hbw hb
                replace hbB2 := bthen hbB2 hb
                replace hB3 := hB3.bel hb
                replace hB5 := hB5.bel hb
                replace hB12 := hB12.bel hb
                have hz_w32 := hb.size
                clear hb
                obtain rfl : th = true := by simpa using hsp_
                refine oY rfl (fun W_ hW_ => (X.move rfl)) rfl ?_
                refine oY rfl (fun W_ hW_ => (X.mvB (c := true) rfl (rfl))) rfl ?_
                refine oNg (g := 128) rfl rfl rfl rfl hS rfl ?_
                refine oNg (g := 128) rfl rfl rfl rfl hS rfl ?_
                refine oNg (g := 128) rfl rfl rfl rfl hS rfl ?_
                refine oNg (g := 128) rfl rfl rfl rfl hS rfl ?_
                refine oNg (g := 128) rfl rfl rfl rfl hS rfl ?_
                refine oNg (g := 128) rfl rfl rfl rfl hS rfl ?_
                refine oNg (g := 128) rfl rfl rfl rfl hS rfl ?_
                refine oY rfl (fun W_ hW_ => (X.pickT rfl rfl)) rfl ?_
                refine oY rfl (fun W_ hW_ => (X.assign rfl)) rfl ?_
                refine oN ?_
                refine nN ?_
                refine bN ?_
                refine tN ?_
                refine W_reg ?_
                obtain ⟨th', hthv⟩ : ∃ th', th' = true := ⟨_, rfl⟩
                have hth' : th' = (L.take (i + 1)).any p := by rw [any_take' p hx, ← hth, Bool.true_or, hthv]
                refine sm rfl rfl ?_
                refine st (X.add64 rfl rfl (by omega)) rfl ?_
                refine sa rfl rfl ?_
                refine Wn ?_
                refine tN ⟨_, _, ?_, ⟨i + 1, th', rfl, rfl, by omega, hth', hB3, hB5, hbB2, hbw⟩, ⟨rfl, rfl, rfl, rfl, rfl, by rw [hthv]; rfl, rfl, trivial⟩⟩
                omega
            · refine W_drsN (fun W_ => ∃ gz, gz = g12 ∧ Blk W_ gz 90 x.cells.toArray ∧ W_.rangeAt g2 (o2 + i * 35) x.cells ∧ W_.rangeAt g1 (o1 + i * 35) x.cells) [0, 1, 2, 3, 4, 5, 6, 7, 8, 9, 10, 11, 12, 13, 14, 15, 16, 17, 18, 19, 20, 21, 22, 23, 24, 25, 26, 27, 28, 29, 30, 31, 32, 33, 34, 35, 36, 37, 38, 39, 40, 41, 42, 43, 44, 45, 46, 47, 48, 49, 50, 51, 52, 53] [true, true, true, true, true, true, true, true, true, true, true, true, true, true, true, true, true, true, true, true, true, true, true, true, true, true, true, true, true, true, true, true, true, true, true, true, false, true, true, true, true, true, true, true, true, true, true, true, true, true, false, true, true, true] (by kernel_rfl) (by kernel_rfl) (⟨_, rfl, hB12.drew, EntsAt.range (hRr.bel (bdrew hbB2)) hL32 hx, EntsAt.range (hAe.bel (bdrew hbB2)) hL32 hx⟩) ?_
              obtain ⟨w33, hw_⟩ : ∃ w33 : World, w33 = World.drew w27 := ⟨_, rfl⟩
              rw [← hw_]
              have hb : Below w27.heap.size w27 w33 := by rw [hw_]; exact bdrew (Below.refl _ _)
              clear hw_
              have hS := hb
              replace hbw := bthen hbw hb
              replace hbB2 := bthen hbB2 hb
              replace hB3 := hB3.bel hb
              replace hB5 := hB5.bel hb
              replace hB12 := hB12.bel hb
              have hz_w33 := hb.size
              clear hb
              refine oY rfl (fun W_ hW_ => (X.move rfl)) rfl ?_
              refine oY rfl (fun W_ hW_ => (X.move rfl)) rfl ?_
              refine oY rfl (fun W_ hW_ => (X.idxA rfl rfl Try.underlying69 siz90 rfl (by omega))) rfl ?_
              refine oY rfl (fun W_ hW_ => (X.ldN (cs := x.cells) rfl Try.underlying90 rfl (by rw [Ent.cells_length hxs]; exact siz90) (by obtain ⟨gz, rfl, k1, k2, k3⟩ := hW_; exact k2))) rfl ?_
              refine oY rfl (fun W_ hW_ => (X.move rfl)) rfl ?_
              refine oY rfl (fun W_ hW_ => (X.move rfl)) rfl ?_
              refine oY rfl (fun W_ hW_ => (X.idxA rfl rfl Try.underlying69 siz90 rfl (by omega))) rfl ?_
              refine oY rfl (fun W_ hW_ => (X.ldN (cs := x.cells) rfl Try.underlying90 rfl (by rw [Ent.cells_length hxs]; exact siz90) (by obtain ⟨gz, rfl, k1, k2, k3⟩ := hW_; exact k3))) rfl ?_
              refine oY rfl (fun W_ hW_ => (X.neEnt hxs hxs rfl rfl)) rfl ?_
              refine oY rfl (fun W_ hW_ => (X.mvB (c := false) rfl (by simp))) rfl ?_
              refine oYg (g := 82) rfl rfl rfl rfl (fun W_ hW_ => (X.move rfl)) rfl ?_
              refine oYg (g := 82) rfl rfl rfl rfl (fun W_ hW_ => (X.not rfl)) rfl ?_
              refine oY rfl (fun W_ hW_ => (X.pickF rfl rfl)) rfl ?_
              refine oY rfl (fun W_ hW_ => (X.mvB (c := false) rfl (rfl))) rfl ?_
              refine oYg (g := 86) rfl rfl rfl rfl (fun W_ hW_ => (X.ldBNe (cs := x.cells.toArray) rfl (by obtain ⟨gz, rfl, k1, k2, k3⟩ := hW_; exact k1) Try.underlying90 rfl (by rw [Ent.size hxs]; exact siz90))) rfl ?_
              refine oYg (g := 86) rfl rfl rfl rfl (fun W_ hW_ => (X.move rfl)) rfl ?_
              refine oYg (g := 86) rfl rfl rfl rfl (fun W_ hW_ => (X.move rfl)) rfl ?_
              refine oYg (g := 86) rfl rfl rfl rfl (fun W_ hW_ => (X.idxA rfl rfl Try.underlying69 siz90 rfl (by omega))) rfl ?_
              refine oYg (g := 86) rfl rfl rfl rfl (fun W_ hW_ => (X.ldN (cs := x.cells) rfl Try.underlying90 rfl (by rw [Ent.cells_length hxs]; exact siz90) (by obtain ⟨gz, rfl, k1, k2, k3⟩ := hW_; exact k3))) rfl ?_
              refine oYg (g := 86) rfl rfl rfl rfl (fun W_ hW_ => (X.neEnt hxs hxs rfl rfl)) rfl ?_
              refine oY rfl (fun W_ hW_ => (X.pickF rfl rfl)) rfl ?_
              refine oY rfl (fun W_ hW_ => (X.mvB (c := false) rfl (by simp))) rfl ?_
              refine oYg (g := 94) rfl rfl rfl rfl (fun W_ hW_ => (X.move rfl)) rfl ?_
              refine oYg (g := 94) rfl rfl rfl rfl (fun W_ hW_ => (X.gtr rfl rfl)) rfl ?_
              refine oYg (g := 94) rfl rfl rfl rfl (fun W_ hW_ => (X.mvB (c := false) rfl (decide_eq_false (by omega)))) rfl ?_
              refine oNg (g := 97) rfl rfl rfl rfl (⟨_, rfl, hB12, EntsAt.range (hRr.bel hbB2) hL32 hx, EntsAt.range (hAe.bel hbB2) hL32 hx⟩) rfl ?_
              refine oNg (g := 97) rfl rfl rfl rfl (⟨_, rfl, hB12, EntsAt.range (hRr.bel hbB2) hL32 hx, EntsAt.range (hAe.bel hbB2) hL32 hx⟩) rfl ?_
              refine oNg (g := 97) rfl rfl rfl rfl (⟨_, rfl, hB12, EntsAt.range (hRr.bel hbB2) hL32 hx, EntsAt.range (hAe.bel hbB2) hL32 hx⟩) rfl ?_
              refine oNg (g := 97) rfl rfl rfl rfl (⟨_, rfl, hB12, EntsAt.range (hRr.bel hbB2) hL32 hx, EntsAt.range (hAe.bel hbB2) hL32 hx⟩) rfl ?_
              refine oNg (g := 97) rfl rfl rfl rfl (⟨_, rfl, hB12, EntsAt.range (hRr.bel hbB2) hL32 hx, EntsAt.range (hAe.bel hbB2) hL32 hx⟩) rfl ?_
              refine oNg (g := 97) rfl rfl rfl rfl (⟨_, rfl, hB12, EntsAt.range (hRr.bel hbB2) hL32 hx, EntsAt.range (hAe.bel hbB2) hL32 hx⟩) rfl ?_
              refine oNg (g := 97) rfl rfl rfl rfl (⟨_, rfl, hB12, EntsAt.range (hRr.bel hbB2) hL32 hx, EntsAt.range (hAe.bel hbB2) hL32 hx⟩) rfl ?_
              refine oNg (g := 97) rfl rfl rfl rfl (⟨_, rfl, hB12, EntsAt.range (hRr.bel hbB2) hL32 hx, EntsAt.range (hAe.bel hbB2) hL32 hx⟩) rfl ?_
              refine oNg (g := 97) rfl rfl rfl rfl (⟨_, rfl, hB12, EntsAt.range (hRr.bel hbB2) hL32 hx, EntsAt.range (hAe.bel hbB2) hL32 hx⟩) rfl ?_
              refine oNg (g := 97) rfl rfl rfl rfl (⟨_, rfl, hB12, EntsAt.range (hRr.bel hbB2) hL32 hx, EntsAt.range (hAe.bel hbB2) hL32 hx⟩) rfl ?_
              refine oNg (g := 97) rfl rfl rfl rfl (⟨_, rfl, hB12, EntsAt.range (hRr.bel hbB2) hL32 hx, EntsAt.range (hAe.bel hbB2) hL32 hx⟩) rfl ?_
              refine oNg (g := 97) rfl rfl rfl rfl (⟨_, rfl, hB12, EntsAt.range (hRr.bel hbB2) hL32 hx, EntsAt.range (hAe.bel hbB2) hL32 hx⟩) rfl ?_
              refine oNg (g := 97) rfl rfl rfl rfl (⟨_, rfl, hB12, EntsAt.range (hRr.bel hbB2) hL32 hx, EntsAt.range (hAe.bel hbB2) hL32 hx⟩) rfl ?_
              refine oNg (g := 97) rfl rfl rfl rfl (⟨_, rfl, hB12, EntsAt.range (hRr.bel hbB2) hL32 hx, EntsAt.range (hAe.bel hbB2) hL32 hx⟩) rfl ?_
              refine oNu (g := 111) rfl rfl rfl rfl (⟨_, rfl, hB12, EntsAt.range (hRr.bel hbB2) hL32 hx, EntsAt.range (hAe.bel hbB2) hL32 hx⟩) rfl ?_
              refine oNu (g := 111) rfl rfl rfl rfl (⟨_, rfl, hB12, EntsAt.range (hRr.bel hbB2) hL32 hx, EntsAt.range (hAe.bel hbB2) hL32 hx⟩) rfl ?_
              refine oNu (g := 111) rfl rfl rfl rfl (⟨_, rfl, hB12, EntsAt.range (hRr.bel hbB2) hL32 hx, EntsAt.range (hAe.bel hbB2) hL32 hx⟩) rfl ?_
              refine oNu (g := 111) rfl rfl rfl rfl (⟨_, rfl, hB12, EntsAt.range (hRr.bel hbB2) hL32 hx, EntsAt.range (hAe.bel hbB2) hL32 hx⟩) rfl ?_
              refine oNu (g := 111) rfl rfl rfl rfl (⟨_, rfl, hB12, EntsAt.range (hRr.bel hbB2) hL32 hx, EntsAt.range (hAe.bel hbB2) hL32 hx⟩) rfl ?_
              refine oNu (g := 111) rfl rfl rfl rfl (⟨_, rfl, hB12, EntsAt.range (hRr.bel hbB2) hL32 hx, EntsAt.range (hAe.bel hbB2) hL32 hx⟩) rfl ?_
              refine oNu (g := 111) rfl rfl rfl rfl (⟨_, rfl, hB12, EntsAt.range (hRr.bel hbB2) hL32 hx, EntsAt.range (hAe.bel hbB2) hL32 hx⟩) rfl ?_
              refine oNu (g := 111) rfl rfl rfl rfl (⟨_, rfl, hB12, EntsAt.range (hRr.bel hbB2) hL32 hx, EntsAt.range (hAe.bel hbB2) hL32 hx⟩) rfl ?_
              refine oNu (g := 111) rfl rfl rfl rfl (⟨_, rfl, hB12, EntsAt.range (hRr.bel hbB2) hL32 hx, EntsAt.range (hAe.bel hbB2) hL32 hx⟩) rfl ?_
              refine oNu (g := 111) rfl rfl rfl rfl (⟨_, rfl, hB12, EntsAt.range (hRr.bel hbB2) hL32 hx, EntsAt.range (hAe.bel hbB2) hL32 hx⟩) rfl ?_
              refine oNu (g := 111) rfl rfl rfl rfl (⟨_, rfl, hB12, EntsAt.range (hRr.bel hbB2) hL32 hx, EntsAt.range (hAe.bel hbB2) hL32 hx⟩) rfl ?_
              refine oNu (g := 111) rfl rfl rfl rfl (⟨_, rfl, hB12, EntsAt.range (hRr.bel hbB2) hL32 hx, EntsAt.range (hAe.bel hbB2) hL32 hx⟩) rfl ?_
              refine oNg (g := 97) rfl rfl rfl rfl (⟨_, rfl, hB12, EntsAt.range (hRr.bel hbB2) hL32 hx, EntsAt.range (hAe.bel hbB2) hL32 hx⟩) rfl ?_
              refine oYg (g := 94) rfl rfl rfl rfl (fun W_ hW_ => (X.pickF rfl rfl)) rfl ?_
              refine oY rfl (fun W_ hW_ => (X.pickF rfl rfl)) rfl ?_
              refine oN ?_
              refine nN ?_
              refine W_no rfl (rfl) ?_
              refine W_skip ?_
              refine tN ?_
              by_cases hsp_ : th = false
              · refine W_drN (fun W_ => Blk W_ g3 36 (s.map bv).toArray ∧ W_.rangeAt g1 (o1 + i * 35 + 0) (x.sum.map bv)) [0, 1, 2, 3, 4, 5, 6, 7, 8, 9, 10] [true, true, true, true, true, true, true, true, true, true, true] (by kernel_rfl) (by kernel_rfl) (⟨hB3.drew, EntsAt.sum (hAe.bel (bdrew hbB2)) hL32 hx⟩) ?_
                obtain ⟨w34, hw_⟩ : ∃ w34 : World, w34 = World.drew w33 := ⟨_, rfl⟩
                rw [← hw_]
                have hb : Below w33.heap.size w33 w34 := by rw [hw_]; exact bdrew (Below.refl _ _)
                clear hw_
                have hS := hb
                replace hbw := bthen hbw hb
                replace hbB2 := bthen hbB2 hb
                replace hB3 := hB3.bel hb
                replace hB5 := hB5.bel hb
                replace hB12 := hB12.bel hb
                have hz_w34 := hb.size
                clear hb
                subst hsp_
                refine oY rfl (fun W_ hW_ => (X.move rfl)) rfl ?_
                refine oY rfl (fun W_ hW_ => (X.mvB (c := false) rfl (rfl))) rfl ?_
                refine oYg (g := 128) rfl rfl rfl rfl (fun W_ hW_ => (X.move rfl)) rfl ?_
                refine oYg (g := 128) rfl rfl rfl rfl (fun W_ hW_ => (X.move rfl)) rfl ?_
                refine oYg (g := 128) rfl rfl rfl rfl (fun W_ hW_ => (X.idxA rfl rfl Try.underlying69 siz90 rfl (by omega))) rfl ?_
                refine oYg (g := 128) rfl rfl rfl rfl (fun W_ hW_ => (X.fa fa90_0 rfl)) rfl ?_
                refine oYg (g := 128) rfl rfl rfl rfl (fun W_ hW_ => (X.ldN (cs := x.sum.map bv) rfl Try.underlying36 rfl (by rw [List.length_map, hxs]; exact siz36) hW_.2)) rfl ?_
                refine oYg (g := 128) rfl rfl rfl rfl (fun W_ hW_ => (X.ldBN (cs := (s.map bv).toArray) rfl hW_.1 Try.underlying36 rfl hss)) rfl ?_
                refine oYg (g := 128) rfl rfl rfl rfl (fun W_ hW_ => (X.eqSumF hxs hs rfl rfl)) rfl ?_
                refine oY rfl (fun W_ hW_ => (X.pickF rfl rfl)) rfl ?_
                refine oY rfl (fun W_ hW_ => (X.assign rfl)) rfl ?_
                refine oN ?_
                refine nN ?_
                refine bN ?_
                refine tN ?_
                refine W_reg ?_
                obtain ⟨th', hthv⟩ : ∃ th', th' = (x.sum == s) := ⟨_, rfl⟩
                have hth' : th' = (L.take (i + 1)).any p := by rw [any_take' p hx, ← hth, Bool.false_or, hthv, ← hp]
                refine sm rfl rfl ?_
                refine st (X.add64 rfl rfl (by omega)) rfl ?_
                refine sa rfl rfl ?_
                refine Wn ?_
                refine tN ⟨_, _, ?_, ⟨i + 1, th', rfl, rfl, by omega, hth', hB3, hB5, hbB2, hbw⟩, ⟨rfl, rfl, rfl, rfl, rfl, by rw [hthv]; rfl, rfl, trivial⟩⟩
                omega
              · refine W_drN (fun _ => True) [0, 1, 2, 3, 4, 5, 6, 7, 8, 9, 10] [true, true, true, true, true, true, true, true, true, true, true] (by kernel_rfl) (by kernel_rfl) (trivial) ?_
                obtain ⟨w35, hw_⟩ : ∃ w35 : World, w35 = World.drew w33 := ⟨_, rfl⟩
                rw [← hw_]
                have hb : Below w33.heap.size w33 w35 := by rw [hw_]; exact bdrew (Below.refl _ _)
                clear hw_
                have hS : True := trivial
                replace hbw := bthen hbw hb
                replace hbB2 := bthen hbB2 hb
                replace hB3 := hB3.bel hb
                replace hB5 := hB5.bel hb
                replace hB12 := hB12.bel hb
                have hz_w35 := hb.size
                clear hb
                obtain rfl : th = true := by simpa using hsp_
                refine oY rfl (fun W_ hW_ => (X.move rfl)) rfl ?_
                refine oY rfl (fun W_ hW_ => (X.mvB (c := true) rfl (rfl))) rfl ?_
                refine oNg (g := 128) rfl rfl rfl rfl hS rfl ?_
                refine oNg (g := 128) rfl rfl rfl rfl hS rfl ?_
                refine oNg (g := 128) rfl rfl rfl rfl hS rfl ?_
                refine oNg (g := 128) rfl rfl rfl rfl hS rfl ?_
                refine oNg (g := 128) rfl rfl rfl rfl hS rfl ?_
                refine oNg (g := 128) rfl rfl rfl rfl hS rfl ?_
                refine oNg (g := 128) rfl rfl rfl rfl hS rfl ?_
                refine oY rfl (fun W_ hW_ => (X.pickT rfl rfl)) rfl ?_
                refine oY rfl (fun W_ hW_ => (X.assign rfl)) rfl ?_
                refine oN ?_
                refine nN ?_
                refine bN ?_
                refine tN ?_
                refine W_reg ?_
                obtain ⟨th', hthv⟩ : ∃ th', th' = true := ⟨_, rfl⟩
                have hth' : th' = (L.take (i + 1)).any p := by rw [any_take' p hx, ← hth, Bool.true_or, hthv]
                refine sm rfl rfl ?_
                refine st (X.add64 rfl rfl (by omega)) rfl ?_
                refine sa rfl rfl ?_
                refine Wn ?_
                refine tN ⟨_, _, ?_, ⟨i + 1, th', rfl, rfl, by omega, hth', hB3, hB5, hbB2, hbw⟩, ⟨rfl, rfl, rfl, rfl, rfl, by rw [hthv]; rfl, rfl, trivial⟩⟩
                omega
        · first | replace h60 := of_decide_eq_false h60 | replace h60 := of_decide_eq_true (notF h60) | replace h60 := notF h60 | skip
          obtain rfl : i = L.length := by omega
          rw [List.take_length] at hth
          refine W_exit (tE (tE (bH ?_)))
          refine tN ?_
          refine W_rs ?_
          refine st (X.ldBN rfl hB5 Try.underlying71 rfl siz71) rfl ?_
          refine st (X.ldBN (cs := (s.map bv).toArray) rfl hB3 Try.underlying36 rfl hss) rfl ?_
          refine sc _ Try.func57 rfl (by kernel_rfl) rfl rfl ((Find_any _ L s _ (hEe.bel hbB2) hL32 hLu hs (by omega)).mono ?_)
          rintro e_ w36 ⟨rfl, hb⟩
          refine cR ?_
          replace hbw := bthen hbw hb
          replace hbB2 := bthen hbB2 hb
          replace hB3 := hB3.bel hb
          replace hB5 := hB5.bel hb
          have hz_w36 := hb.size
          clear hb
          refine sm rfl rfl ?_
          refine st (X.ext rfl rfl) rfl ?_
          refine st (X.ext rfl rfl) rfl ?_
          refine salA inf90 rfl (fun g14 w37 hB14 hg14 hb hl14 => ?_)
          replace hbw := bthen hbw hb
          replace hbB2 := bthen hbB2 hb
          replace hB3 := hB3.bel hb
          replace hB5 := hB5.bel hb
          have hz_w37 := hb.size
          clear hb
          refine ssBN rfl rfl hB14 (by rw [Ent.size (getD32 hL32 s)]; exact siz90) (by rw [Ent.size (getD32 hL32 s)]; rfl) (Ent.cells_one _) (fun w38 hB_ hc_ => ?_)
          replace hB14 := hB_
          clear hB_
          replace hB3 := hB3.chg hc_ (by first | (show ¬ _ = _; omega) | (intro k_ hk_; simp [Value.ownBlock] at hk_; subst hk_; show ¬ _ = _; omega))
          replace hB5 := hB5.chg hc_ (by first | (show ¬ _ = _; omega) | (intro k_ hk_; simp [Value.ownBlock] at hk_; subst hk_; show ¬ _ = _; omega))
          replace hbw := bset hbw hc_ (by omega)
          replace hbB2 := bset hbB2 hc_ (by omega)
          have hz_w38 := hc_.size
          clear hc_
          refine sa rfl rfl ?_
          refine Wn ?_
          refine tN ?_
          refine W_rs ?_
          refine sm rfl rfl ?_
          refine sm rfl rfl ?_
          refine st (X.beq (c := true) (.inl ⟨rfl, by rw [hth, find_any, hp]; simp⟩) Try.underlying4 rfl rfl) rfl ?_
          refine sbY rfl (rfl) rfl ?_
          refine gY (g := 146) rfl rfl rfl ?_
          refine st (X.ldBN (cs := (s.map bv).toArray) rfl hB3 Try.underlying36 rfl hss) rfl ?_
          refine gY (g := 146) rfl rfl rfl ?_
          refine st (X.ldBN (cs := (s.map bv).toArray) rfl hB3 Try.underlying36 rfl hss) rfl ?_
          refine gY (g := 146) rfl rfl rfl ?_
          refine sc _ Try.func59 rfl (by kernel_rfl) rfl rfl ((Less_any s s hs hs _).mono ?_)
          rintro e_ w39 ⟨rfl, hb⟩
          refine cR ?_
          replace hbw := bthen hbw hb
          replace hbB2 := bthen hbB2 hb
          replace hB3 := hB3.bel hb
          replace hB5 := hB5.bel hb
          replace hB14 := hB14.bel hb
          have hz_w39 := hb.size
          clear hb
          refine gY (g := 146) rfl rfl rfl ?_
          refine st (X.not rfl) rfl ?_
          refine st (X.pickT rfl rfl) rfl ?_
          refine sbY rfl (by rw [decide_eq_false (klt_irrefl s)]; rfl) rfl ?_
          refine gY (g := 152) rfl rfl rfl ?_
          refine sc _ Try.func44 rfl (by kernel_rfl) rfl rfl ((fawake_any _).mono ?_)
          rintro e_ w40 ⟨rfl, hb⟩
          refine cR ?_
          replace hbw := bthen hbw hb
          replace hbB2 := bthen hbB2 hb
          replace hB3 := hB3.bel hb
          replace hB5 := hB5.bel hb
          replace hB14 := hB14.bel hb
          have hz_w40 := hb.size
          clear hb
          refine st (X.pickT rfl rfl) rfl ?_
          refine sa rfl rfl ?_
          refine Wn ?_
          refine tN ?_
          refine W_ret ?_
          exact (rT rfl rfl ⟨rfl, hbw⟩).1
end Go.Proofs.Ytnagmpnpgekhfaa
