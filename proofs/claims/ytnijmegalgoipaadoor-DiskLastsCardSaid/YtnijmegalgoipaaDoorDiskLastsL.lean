/- The law DiskLasts. -/
import Derived.Test.YtnijmegalgoipaaDoorLastsPlain
import Derived.Test.YtnijmegalgoipaaDoorOpVal
namespace Go.Proofs.YtnijmegalgoipaaDoor
open Go.RowKit
theorem mod_twice' (p n q : Int) (hq : p.tmod n = q) : (q + n) % n = p % n := by rw [← hq, mod_twice]
set_option maxRecDepth 10000 in
theorem DiskLasts_walk (w : World) (s : List UInt8) (hs : s.length ≤ 9223372036854775807) (v : Value) (parts : List (List UInt8)) (hP : Reads w 1 v parts.length (parts.map str)) (pick : Int) :
    Calls Tryd.prog 5 #[str s, v, .int .i64 pick] w fun e w' => e = .returned (.bool true) ∧ Below w.heap.size w w' := by
  obtain ⟨a, c, rfl, hc1, hc2⟩ := hP.shape
  have hnn := hP.nle
  have g0 : Good 0 (newM 10000) := Good.new (by omega)
  refine W_enter (args := [str s, .slice a parts.length c, .int .i64 pick]) 136 Tryd.func5 rfl rfl rfl ?_
  refine W_sub [(0, str s), (1, .slice a parts.length c), (2, .int .i64 pick)] ?_ ⟨rfl, rfl, rfl, trivial⟩
  have hbw := Below.refl w.heap.size w
  refine W_rs ?_
  refine sa rfl rfl ?_
  refine Wn ?_
  refine tN ?_
  refine W_rs ?_
  refine sc _ Tryd.func23 rfl (by kernel_rfl) rfl rfl ((New_ok 10000 _ (by omega)).mono ?_)
  rintro e_ w1 ⟨g, S0, rfl, h0, hS0, hb⟩
  refine cR ?_
  replace hbw := bthen hbw hb
  have hz_w1 := hb.size
  clear hb
  have hd : Own w.heap.size w1 g (newM 10000) S0 := ⟨h0, fun k hk => by have := hS0 k hk; have := hbw.size; omega⟩
  clear h0 hS0
  refine sm rfl rfl ?_
  refine st (X.ext rfl rfl) rfl ?_
  refine st (X.ext rfl rfl) rfl ?_
  refine sa rfl rfl ?_
  refine sa rfl rfl ?_
  refine Wn ?_
  refine tN ?_
  refine W_seq ?_
  refine W_rs ?_
  refine sm rfl rfl ?_
  refine st (X.neq rfl rfl) rfl ?_
  refine sbN rfl (rfl) rfl ?_
  refine gY (g := 23) rfl rfl rfl ?_
  refine sm rfl rfl ?_
  refine gY (g := 23) rfl rfl rfl ?_
  refine st (X.dEq rfl) rfl ?_
  refine st (X.pickF rfl rfl) rfl ?_
  refine sbN rfl (rfl) rfl ?_
  refine gY (g := 27) rfl rfl rfl ?_
  refine sm rfl rfl ?_
  refine gY (g := 27) rfl rfl rfl ?_
  refine st (X.lenS rfl rfl Tryd.underlying9) rfl ?_
  refine gY (g := 27) rfl rfl rfl ?_
  refine st (X.gtr rfl rfl) rfl ?_
  refine st (X.pickF rfl rfl) rfl ?_
  refine sb rfl rfl (fun h32 => ?_) (fun h32 => ?_)
  · first | replace h32 := of_decide_eq_true h32 | replace h32 := of_decide_eq_false (notT h32) | replace h32 := notT h32 | skip
    refine gN (g := 32) rfl rfl rfl rfl ?_
    refine gN (g := 32) rfl rfl rfl rfl ?_
    refine gN (g := 32) rfl rfl rfl rfl ?_
    refine st (X.pickT rfl rfl) rfl ?_
    refine Wn ?_
    refine tN ?_
    refine W_yes rfl (rfl) ?_
    refine W_rs ?_
    refine sm rfl rfl ?_
    refine st (X.eql rfl rfl) rfl ?_
    refine sbY rfl (rfl) rfl ?_
    refine gY (g := 39) rfl rfl rfl ?_
    refine sm rfl rfl ?_
    refine gY (g := 39) rfl rfl rfl ?_
    refine st (X.dNe rfl) rfl ?_
    refine st (X.pickT rfl rfl) rfl ?_
    refine sbY rfl (rfl) rfl ?_
    refine gY (g := 43) rfl rfl rfl ?_
    refine sc _ Tryd.func24 rfl (by kernel_rfl) rfl rfl ((awake_any _).mono ?_)
    rintro e_ w2 ⟨rfl, hb⟩
    refine cR ?_
    replace hbw := bthen hbw hb
    replace hd := hd.bel hb
    have hz_w2 := hb.size
    clear hb
    refine st (X.pickT rfl rfl) rfl ?_
    refine sa rfl rfl ?_
    refine Wn ?_
    refine tN ?_
    refine W_ret (tR ?_)
    exact (rT rfl rfl ⟨rfl, hbw⟩).1
  · first | replace h32 := of_decide_eq_false h32 | replace h32 := of_decide_eq_true (notF h32) | replace h32 := notF h32 | skip
    refine gY (g := 32) rfl rfl rfl ?_
    refine sm rfl rfl ?_
    refine gY (g := 32) rfl rfl rfl ?_
    refine st (X.lenL rfl rfl Tryd.underlying23) rfl ?_
    refine gY (g := 32) rfl rfl rfl ?_
    refine st (X.gtr rfl rfl) rfl ?_
    refine st (X.pickF rfl rfl) rfl ?_
    refine Wn ?_
    refine tN ?_
    refine W_if rfl (fun h36 => ?_) (fun h36 => ?_)
    · first | replace h36 := of_decide_eq_true h36 | replace h36 := of_decide_eq_false (notT h36) | replace h36 := notT h36 | skip
      refine W_rs ?_
      refine sm rfl rfl ?_
      refine st (X.eql rfl rfl) rfl ?_
      refine sbY rfl (rfl) rfl ?_
      refine gY (g := 39) rfl rfl rfl ?_
      refine sm rfl rfl ?_
      refine gY (g := 39) rfl rfl rfl ?_
      refine st (X.dNe rfl) rfl ?_
      refine st (X.pickT rfl rfl) rfl ?_
      refine sbY rfl (rfl) rfl ?_
      refine gY (g := 43) rfl rfl rfl ?_
      refine sc _ Tryd.func24 rfl (by kernel_rfl) rfl rfl ((awake_any _).mono ?_)
      rintro e_ w3 ⟨rfl, hb⟩
      refine cR ?_
      replace hbw := bthen hbw hb
      replace hd := hd.bel hb
      have hz_w3 := hb.size
      clear hb
      refine st (X.pickT rfl rfl) rfl ?_
      refine sa rfl rfl ?_
      refine Wn ?_
      refine tN ?_
      refine W_ret (tR ?_)
      exact (rT rfl rfl ⟨rfl, hbw⟩).1
    · first | replace h36 := of_decide_eq_false h36 | replace h36 := of_decide_eq_true (notF h36) | replace h36 := notF h36 | skip
      refine W_skip ?_
      refine tN ?_
      refine W_rs ?_
      refine sm rfl rfl ?_
      refine sc _ Tryd.func25 rfl (by kernel_rfl) rfl rfl ((Create_any g (newM 10000) _ [102] _ hd.at_ g0.ok).mono ?_)
      rintro e_ w4 ⟨rfl, h1, hX⟩
      refine cR ?_
      have hdn := hd.step h1 hX hbw.size
      have hbwn := bchg hbw hX (fun k hk => (hd.lo k hk).1)
      clear hd hbw h1 hX
      have hd := hdn
      have hbw := hbwn
      clear hdn hbwn
      have g1 := create_good g0 [102]
      have hL := LastsAt.new
      refine Wn ?_
      refine tN ?_
      refine W_rs ?_
      refine sm rfl rfl ?_
      refine sm rfl rfl ?_
      refine sc _ Tryd.func26 rfl (by kernel_rfl) rfl rfl ((Append_any g _ _ [102] s _ hd.at_ g1.ok (g1.bud (by omega)) (by omega)).mono ?_)
      rintro e_ w5 ⟨rfl, h1, hX⟩
      refine cR ?_
      have hdn := hd.step h1 hX hbw.size
      have hbwn := bchg hbw hX (fun k hk => (hd.lo k hk).1)
      clear hd hbw h1 hX
      have hd := hdn
      have hbw := hbwn
      clear hdn hbwn
      have g2 := (append_good g1 [102] s).mono (m := 300) (by omega)
      replace hL := (hL.append (d := s) (by simp; omega)).2
      rw [List.nil_append] at hL
      refine Wn ?_
      refine tN ?_
      refine W_rs ?_
      refine sm rfl rfl ?_
      refine sc _ Tryd.func27 rfl (by kernel_rfl) rfl rfl ((Sync_any g _ _ [102] _ hd.at_ g2.ok).mono ?_)
      rintro e_ w6 ⟨rfl, h1, hX⟩
      refine cR ?_
      have hdn := hd.step h1 hX hbw.size
      have hbwn := bchg hbw hX (fun k hk => (hd.lo k hk).1)
      clear hd hbw h1 hX
      have hd := hdn
      have hbw := hbwn
      clear hdn hbwn
      have g3 := sync_good g2 [102]
      replace hL := hL.sync
      rw [List.nil_append] at hL
      refine Wn ?_
      refine tN ?_
      refine W_rs ?_
      refine sa rfl rfl ?_
      refine Wn ?_
      refine tN ?_
      refine W_seq ?_
      refine W_rs ?_
      refine sa rfl rfl ?_
      refine Wn ?_
      refine tN ?_
      refine W_block ?_
      refine W_lp (fun nw7_ lw7_ w7 => ∃ j : Nat, ∃ D : DiskD, ∃ S : Nat → Prop, ∃ all : List UInt8, nw7_ = parts.length - j ∧ lw7_ = ([(0, str s), (1, .slice a parts.length c), (2, .int .i64 pick), (7, .pointer (some ⟨g, 0, none⟩)), (9, str all), (10, .int .i64 j)] : Env) ∧ (j ≤ parts.length) ∧ (Below w.heap.size w w7) ∧ (Own w.heap.size w7 g D S) ∧ (Good (300 + 201 * j) D) ∧ (LastsAt D s all) ∧ (all.length ≤ 200 * j)) _ ⟨_, ⟨0, _, _, [], rfl, rfl, Nat.zero_le _, hbw, hd, g3, hL, by simp⟩, ⟨rfl, rfl, rfl, rfl, rfl, rfl, trivial⟩⟩ ?_
      clear hbw hd hL
      rintro nw7_ lw7_ w7 ⟨j, D, S, all, rfl, rfl, hj, hbw, hd, hg, hL, hal⟩
      have hz_w7 := hbw.size
      refine W_seq ?_
      refine W_rs ?_
      refine sm rfl rfl ?_
      refine sm rfl rfl ?_
      refine st (X.lenL rfl rfl Tryd.underlying23) rfl ?_
      refine st (X.lss rfl rfl) rfl ?_
      refine Wn ?_
      refine tN ?_
      refine W_if rfl (fun h56 => ?_) (fun h56 => ?_)
      · first | replace h56 := of_decide_eq_true h56 | replace h56 := of_decide_eq_false (notT h56) | replace h56 := notT h56 | skip
        obtain ⟨x, hx⟩ : ∃ x, parts[j]? = some x := ⟨_, List.getElem?_eq_getElem (by omega)⟩
        obtain ⟨g1, o1, c', hv, hg1⟩ := hP.some_ (by omega)
        injection hv with e1 _ e3
        subst e1 e3
        have hux : (parts.map str)[j]? = some (str x) := by rw [List.getElem?_map, hx]; rfl
        refine W_skip ?_
        refine tN ?_
        refine W_seq ?_
        refine W_block ?_
        refine W_seq ?_
        refine W_rs ?_
        refine sm rfl rfl ?_
        refine sm rfl rfl ?_
        refine st (X.idxA rfl rfl Tryd.underlying23 siz9 rfl (by omega)) rfl ?_
        refine st (X.ld rfl Tryd.underlying9 rfl (by rw [Nat.mul_one]; exact (hP.bel hbw).cellAt (by omega) hux)) rfl ?_
        refine st (X.lenS rfl rfl Tryd.underlying9) rfl ?_
        refine st (X.gtr rfl rfl) rfl ?_
        refine Wn ?_
        refine tN ?_
        refine W_if rfl (fun h64 => ?_) (fun h64 => ?_)
        · first | replace h64 := of_decide_eq_true h64 | replace h64 := of_decide_eq_false (notT h64) | replace h64 := notT h64 | skip
          refine W_rs ?_
          refine sc _ Tryd.func24 rfl (by kernel_rfl) rfl rfl ((awake_any _).mono ?_)
          rintro e_ w8 ⟨rfl, hb⟩
          refine cR ?_
          replace hbw := bthen hbw hb
          replace hd := hd.bel hb
          have hz_w8 := hb.size
          clear hb
          refine sa rfl rfl ?_
          refine Wn ?_
          refine tN ?_
          refine W_ret (tR (bR (tR (tR (bR (tR ?_))))))
          exact (rT rfl rfl ⟨rfl, hbw⟩).1
        · first | replace h64 := of_decide_eq_false h64 | replace h64 := of_decide_eq_true (notF h64) | replace h64 := notF h64 | skip
          refine W_skip ?_
          refine tN ?_
          refine W_seq ?_
          refine W_rs ?_
          refine sm rfl rfl ?_
          refine sm rfl rfl ?_
          refine sm rfl rfl ?_
          refine st (X.idxA rfl rfl Tryd.underlying23 siz9 rfl (by omega)) rfl ?_
          refine st (X.ld rfl Tryd.underlying9 rfl (by rw [Nat.mul_one]; exact (hP.bel hbw).cellAt (by omega) hux)) rfl ?_
          have hLa := hL.append (d := x) (by rw [List.length_append]; omega)
          refine sc _ Tryd.func26 rfl (by kernel_rfl) rfl rfl ((Append_any g D S [102] x _ hd.at_ hg.ok (hg.bud (by omega)) (by omega)).mono ?_)
          rintro e_ w9 ⟨rfl, h1, hX⟩
          refine cR ?_
          have hdn := hd.step h1 hX hbw.size
          have hbwn := bchg hbw hX (fun k hk => (hd.lo k hk).1)
          clear hd hbw h1 hX
          have hd := hdn
          have hbw := hbwn
          clear hdn hbwn
          have hg2 := (append_good hg [102] x).mono (m := 300 + 201 * (j + 1)) (by omega)
          have hL2 := hLa.2
          refine st (X.neq rfl rfl) rfl ?_
          refine Wn ?_
          refine tN ?_
          refine W_no rfl (decide_eq_false (by rw [hLa.1]; simp)) ?_
          refine W_skip ?_
          refine tN ?_
          refine W_reg ?_
          refine sm rfl rfl ?_
          refine sm rfl rfl ?_
          refine sm rfl rfl ?_
          refine st (X.idxA rfl rfl Tryd.underlying23 siz9 rfl (by omega)) rfl ?_
          refine st (X.ld rfl Tryd.underlying9 rfl (by rw [Nat.mul_one]; exact (hP.bel hbw).cellAt (by omega) hux)) rfl ?_
          refine st (X.cat rfl rfl (by omega)) rfl ?_
          refine sa rfl rfl ?_
          refine Wn ?_
          refine bN ?_
          refine tN ?_
          refine W_reg ?_
          refine sm rfl rfl ?_
          refine st (X.add64 rfl rfl (by omega)) rfl ?_
          refine sa rfl rfl ?_
          refine Wn ?_
          refine tN ⟨_, _, ?_, ⟨j + 1, _, _, all ++ x, rfl, rfl, by omega, hbw, hd, hg2, hL2, by rw [List.length_append]; omega⟩, ⟨rfl, rfl, rfl, rfl, rfl, rfl, trivial⟩⟩
          omega
      · first | replace h56 := of_decide_eq_false h56 | replace h56 := of_decide_eq_true (notF h56) | replace h56 := notF h56 | skip
        obtain rfl : j = parts.length := by omega
        refine W_exit (tE (tE (bH ?_)))
        refine tN ?_
        refine W_rs ?_
        refine sm rfl rfl ?_
        refine sm rfl rfl ?_
        have hlo := hd.lo
        refine sbs1 rfl Tryd.underlying56 inf3 rfl rfl (by decide) (by decide) rfl (fun g81 w10 hR81 hg81 hb => ?_)
        replace hbw := bthen hbw hb
        replace hd := hd.bel hb
        have hz_w10 := hb.size
        clear hb
        have hl81 := hR81.blt (by decide)
        have hnS : ∀ k, (Value.slice (some ⟨g81, 0, none⟩) 1 1).ownBlock = some k → ¬ S k := fun k hk h1 => by
          simp [Value.ownBlock] at hk
          have := hlo k h1
          omega
        refine sc _ Tryd.func28 rfl (by kernel_rfl) rfl rfl ((Crash_any g D S _ [pick] _ hd.at_ hg.ok (hg.bud (by omega)) (by have := hg.few; omega) hR81.reads (fun _ => hnS)).mono ?_)
        rintro e_ w11 ⟨rfl, h1, hX⟩
        refine cR ?_
        have hdn := hd.step h1 hX hbw.size
        have hbwn := bchg hbw hX (fun k hk => (hd.lo k hk).1)
        clear hd hbw h1 hX
        have hd := hdn
        have hbw := hbwn
        clear hdn hbwn
        obtain ⟨kp, hkp⟩ : ∃ kp : Nat, (pick % ((all.length + 1 : Nat) : Int)).toNat = kp := ⟨_, rfl⟩
        have hkp2 := Int.emod_nonneg pick (b := ((all.length + 1 : Nat) : Int)) (by omega)
        have hkp3 := Int.emod_lt_of_pos pick (b := ((all.length + 1 : Nat) : Int)) (by omega)
        have hL3 := hL.crash pick
        rw [hkp] at hL3
        have hg3 := crash_good hg [pick]
        have ht1 := Int.tmod_lt_of_pos pick (b := (all.length : Int) + 1) (by omega)
        have ht2 := Int.lt_tmod_of_pos pick (b := (all.length : Int) + 1) (by omega)
        obtain ⟨q, hq⟩ : ∃ q, pick.tmod ((all.length : Int) + 1) = q := ⟨_, rfl⟩
        rw [hq] at ht1 ht2
        have hqk : (q + ((all.length : Int) + 1)) % ((all.length : Int) + 1) = (kp : Int) := by
          rw [mod_twice' _ _ _ hq, ← hkp, Int.toNat_of_nonneg hkp2]
          congr 1
        have hrl : (s ++ all.take kp).length ≤ 10000 := by rw [List.length_append, List.length_take]; omega
        have htk : (all.take kp).length ≤ 4000 := by rw [List.length_take]; omega
        clear hlo hnS
        refine Wn ?_
        refine tN ?_
        refine W_rs ?_
        refine sm rfl rfl ?_
        refine st (X.lenS rfl rfl Tryd.underlying9) rfl ?_
        refine st (X.add64 rfl rfl (by omega)) rfl ?_
        refine sa rfl rfl ?_
        refine Wn ?_
        refine tN ?_
        refine W_rs ?_
        refine sm rfl rfl ?_
        refine sm rfl rfl ?_
        refine st (X.rem rfl rfl (by omega) hq) rfl ?_
        refine sm rfl rfl ?_
        refine st (X.add64 rfl rfl (by omega)) rfl ?_
        refine sm rfl rfl ?_
        refine st (X.rem64 rfl rfl (by omega) (by omega)) rfl ?_
        refine sa rfl rfl ?_
        refine Wn ?_
        refine tN ?_
        refine W_rs ?_
        refine sm rfl rfl ?_
        refine sc _ Tryd.func29 rfl (by kernel_rfl) rfl rfl ((Read_is hd.at_ hg3.ok (hL3.read (by rw [List.append_nil]; exact hrl))).mono ?_)
        rintro e_ w12 ⟨rfl, hb⟩
        refine cR ?_
        replace hbw := bthen hbw hb
        replace hd := hd.bel hb
        have hz_w12 := hb.size
        clear hb
        refine sm rfl rfl ?_
        refine st (X.ext rfl rfl) rfl ?_
        refine st (X.ext rfl rfl) rfl ?_
        refine sa rfl rfl ?_
        refine sa rfl rfl ?_
        refine Wn ?_
        refine tN ?_
        refine W_rs ?_
        refine sm rfl rfl ?_
        have hlo := hd.lo
        refine sbs1 rfl Tryd.underlying56 inf3 rfl rfl (by decide) (by decide) rfl (fun g99 w13 hR99 hg99 hb => ?_)
        replace hbw := bthen hbw hb
        replace hd := hd.bel hb
        have hz_w13 := hb.size
        clear hb
        have hl99 := hR99.blt (by decide)
        have hnS : ∀ k, (Value.slice (some ⟨g99, 0, none⟩) 1 1).ownBlock = some k → ¬ Ext S _ _ k := fun k hk h1 => by
          simp [Value.ownBlock] at hk
          have := hlo k h1
          omega
        refine sc _ Tryd.func28 rfl (by kernel_rfl) rfl rfl ((Crash_any g _ _ _ [5] _ hd.at_ hg3.ok (hg3.bud (by omega)) (by have := hg3.few; omega) hR99.reads (fun _ => hnS)).mono ?_)
        rintro e_ w14 ⟨rfl, h1, hX⟩
        refine cR ?_
        have hdn := hd.step h1 hX hbw.size
        have hbwn := bchg hbw hX (fun k hk => (hd.lo k hk).1)
        clear hd hbw h1 hX
        have hd := hdn
        have hbw := hbwn
        clear hdn hbwn
        have hL4 := hL3.crash 5
        simp only [List.take_nil, List.append_nil] at hL4
        have hg4 := crash_good hg3 [5]
        clear hlo hnS
        refine Wn ?_
        refine tN ?_
        refine W_rs ?_
        refine sm rfl rfl ?_
        refine sc _ Tryd.func29 rfl (by kernel_rfl) rfl rfl ((Read_is hd.at_ hg4.ok (hL4.read (by rw [List.append_nil]; exact hrl))).mono ?_)
        rintro e_ w15 ⟨rfl, hb⟩
        refine cR ?_
        replace hbw := bthen hbw hb
        replace hd := hd.bel hb
        have hz_w15 := hb.size
        clear hb
        refine sm rfl rfl ?_
        refine st (X.ext rfl rfl) rfl ?_
        refine st (X.ext rfl rfl) rfl ?_
        refine sa rfl rfl ?_
        refine sa rfl rfl ?_
        refine Wn ?_
        refine tN ?_
        refine W_rs ?_
        refine sm rfl rfl ?_
        refine st (X.eql rfl rfl) rfl ?_
        refine sbY rfl (rfl) rfl ?_
        refine gY (g := 108) rfl rfl rfl ?_
        refine sm rfl rfl ?_
        refine gY (g := 108) rfl rfl rfl ?_
        refine st (X.eql rfl rfl) rfl ?_
        refine st (X.pickT rfl rfl) rfl ?_
        refine sbY rfl (rfl) rfl ?_
        refine gY (g := 112) rfl rfl rfl ?_
        refine sm rfl rfl ?_
        refine gY (g := 112) rfl rfl rfl ?_
        refine sm rfl rfl ?_
        refine gY (g := 112) rfl rfl rfl ?_
        refine sm rfl rfl ?_
        refine gY (g := 112) rfl rfl rfl ?_
        refine sm rfl rfl ?_
        refine gY (g := 112) rfl rfl rfl ?_
        refine st (X.toS (s := all) rfl rfl Tryd.underlying9 hqk (by omega)) rfl ?_
        refine gY (g := 112) rfl rfl rfl ?_
        refine st (X.cat rfl rfl (by omega)) rfl ?_
        refine gY (g := 112) rfl rfl rfl ?_
        refine st (X.eqS rfl rfl) rfl ?_
        refine st (X.pickT rfl rfl) rfl ?_
        refine sbY rfl (decide_eq_true (by simp)) rfl ?_
        refine gY (g := 121) rfl rfl rfl ?_
        refine sm rfl rfl ?_
        refine gY (g := 121) rfl rfl rfl ?_
        refine sm rfl rfl ?_
        refine gY (g := 121) rfl rfl rfl ?_
        refine st (X.eqS rfl rfl) rfl ?_
        refine st (X.pickT rfl rfl) rfl ?_
        refine sbY rfl (decide_eq_true rfl) rfl ?_
        refine gY (g := 126) rfl rfl rfl ?_
        refine sm rfl rfl ?_
        refine gY (g := 126) rfl rfl rfl ?_
        refine sc _ Tryd.func30 rfl (by kernel_rfl) rfl rfl ((Used_any g _ _ _ hd.at_).mono ?_)
        rintro e_ w16 ⟨rfl, hb⟩
        refine cR ?_
        replace hbw := bthen hbw hb
        replace hd := hd.bel hb
        have hz_w16 := hb.size
        clear hb
        refine gY (g := 126) rfl rfl rfl ?_
        refine sm rfl rfl ?_
        refine gY (g := 126) rfl rfl rfl ?_
        refine st (X.lenS rfl rfl Tryd.underlying9) rfl ?_
        refine gY (g := 126) rfl rfl rfl ?_
        refine st (X.eql rfl rfl) rfl ?_
        refine st (X.pickT rfl rfl) rfl ?_
        refine sbY rfl (decide_eq_true (by rw [hL4.used]; try simp)) rfl ?_
        refine gY (g := 133) rfl rfl rfl ?_
        refine sc _ Tryd.func24 rfl (by kernel_rfl) rfl rfl ((awake_any _).mono ?_)
        rintro e_ w17 ⟨rfl, hb⟩
        refine cR ?_
        replace hbw := bthen hbw hb
        replace hd := hd.bel hb
        have hz_w17 := hb.size
        clear hb
        refine st (X.pickT rfl rfl) rfl ?_
        refine sa rfl rfl ?_
        refine Wn ?_
        refine tN ?_
        refine W_ret ?_
        exact (rT rfl rfl ⟨rfl, hbw⟩).1
end Go.Proofs.YtnijmegalgoipaaDoor
