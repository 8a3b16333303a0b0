/- The law DiskNames. -/
import Derived.Test.YtnijmegalgoipaaDoorLastsPlain
import Derived.Test.YtnijmegalgoipaaDoorNameL
import Derived.Test.YtnijmegalgoipaaDoorOpVal
namespace Go.Proofs.YtnijmegalgoipaaDoor
open Go.RowKit
theorem mod_twice' (p n q : Int) (hq : p.tmod n = q) : (q + n) % n = p % n := by rw [← hq, mod_twice]
theorem create_bad {n : Key} {lim : Int} (h : nameOk n = false) : (createM (newM lim) n).1 = 1 := by
  unfold createM opM
  rw [if_neg (by simp [newM])]
  show (Prod.fst (if nameOk n = true then _ else _)) = _
  rw [if_neg (by rw [h]; simp)]
theorem rename_bad {D : DiskD} {k b : Key} {lim : Int} {s all : List UInt8} (h : LastsAt D k lim s all) (hb : nameOk b = false) : (renameM D k b).1 = 1 := by
  unfold renameM
  rw [h.op, if_neg (by rw [hb]; simp)]
theorem crash_nilf {D : DiskD} (h : D.files = []) : namesM (crashD D []) = [] ∧ (crashD D []).used = 0 := by
  have hc : crashAll D.files [] = [] := by rw [h]; rfl
  refine ⟨?_, ?_⟩
  · show (crashAll D.files []).map _ = _
    rw [hc]
    rfl
  · show ((usedM (crashAll D.files []) : Nat) : Int) = 0
    rw [hc]
    rfl
set_option maxRecDepth 10000 in
theorem DiskNames_walk (w : World) (a : List UInt8) (ha : a.length ≤ 9223372036854775807) (b : List UInt8) (hb_ : b.length ≤ 9223372036854775807) (x y : List UInt8) (pick : Int) (_hpk : -9223372036854775808 ≤ pick ∧ pick ≤ 9223372036854775807) :
    Calls Tryd.prog 6 #[str a, str b, .agg #[str x, str y, .int .i64 pick]] w fun e w' => e = .returned (.bool true) ∧ Below w.heap.size w w' := by
  have u0 : Good 0 (newM 10000) := Good.new (by omega)
  have hcr : decide ((createM (newM 10000) a).1 = 0) = nameOk a := by
    cases hna : nameOk a with
    | false => rw [create_bad hna]; rfl
    | true => rw [(LastsAt.new (lim := 10000) hna).1]; rfl
  refine W_enter (args := [str a, str b, .agg #[str x, str y, .int .i64 pick]]) 187 Tryd.func6 rfl rfl rfl ?_
  refine W_sub [(0, str a), (1, str b), (2, .agg #[str x, str y, .int .i64 pick])] ?_ ⟨rfl, rfl, rfl, trivial⟩
  have hbw := Below.refl w.heap.size w
  refine W_rs ?_
  refine sboxA rfl rfl (fun g5 w1 hB5 hg5 hb hl5 => ?_)
  replace hbw := bthen hbw hb
  have hz_w1 := hb.size
  clear hb
  refine sa rfl rfl ?_
  refine Wn ?_
  refine tN ?_
  refine W_rs ?_
  refine sc _ Tryd.func23 rfl (by kernel_rfl) rfl rfl ((New_ok 10000 _ (by omega)).mono ?_)
  rintro e_ w2 ⟨g, S0, rfl, h0, hS0, hb⟩
  refine cR ?_
  replace hbw := bthen hbw hb
  replace hB5 := hB5.bel hb
  have hz_w2 := hb.size
  clear hb
  have hd : Own w1.heap.size w2 g (newM 10000) S0 := ⟨h0, fun k hk => by have := hS0 k hk; have := hbw.size; omega⟩
  clear h0 hS0
  refine sm rfl rfl ?_
  refine st (X.ext rfl rfl) rfl ?_
  refine st (X.ext rfl rfl) rfl ?_
  refine sa rfl rfl ?_
  refine sa rfl rfl ?_
  refine Wn ?_
  refine tN ?_
  refine W_seq ?_
  refine W_rs ?_
  refine sm rfl rfl ?_
  refine st (X.neq rfl rfl) rfl ?_
  refine sbN rfl (rfl) rfl ?_
  refine gY (g := 23) rfl rfl rfl ?_
  refine sm rfl rfl ?_
  refine gY (g := 23) rfl rfl rfl ?_
  refine st (X.dEq rfl) rfl ?_
  refine st (X.pickF rfl rfl) rfl ?_
  refine sbN rfl (rfl) rfl ?_
  refine gY (g := 27) rfl rfl rfl ?_
  refine st (X.fa fa52_0 rfl) rfl ?_
  refine gY (g := 27) rfl rfl rfl ?_
  refine st (X.ldL rfl hB5 Tryd.underlying9 rfl rfl) rfl ?_
  refine gY (g := 27) rfl rfl rfl ?_
  refine st (X.lenS rfl rfl Tryd.underlying9) rfl ?_
  refine gY (g := 27) rfl rfl rfl ?_
  refine st (X.gtr rfl rfl) rfl ?_
  refine st (X.pickF rfl rfl) rfl ?_
  refine sb rfl rfl (fun h33 => ?_) (fun h33 => ?_)
  · first | replace h33 := of_decide_eq_true h33 | replace h33 := of_decide_eq_false (notT h33) | replace h33 := notT h33 | skip
    refine gN (g := 33) rfl rfl rfl rfl ?_
    refine gN (g := 33) rfl rfl rfl rfl ?_
    refine gN (g := 33) rfl rfl rfl rfl ?_
    refine gN (g := 33) rfl rfl rfl rfl ?_
    refine st (X.pickT rfl rfl) rfl ?_
    refine Wn ?_
    refine tN ?_
    refine W_yes rfl (rfl) ?_
    refine W_rs ?_
    refine sm rfl rfl ?_
    refine st (X.eql rfl rfl) rfl ?_
    refine sbY rfl (rfl) rfl ?_
    refine gY (g := 41) rfl rfl rfl ?_
    refine sm rfl rfl ?_
    refine gY (g := 41) rfl rfl rfl ?_
    refine st (X.dNe rfl) rfl ?_
    refine st (X.pickT rfl rfl) rfl ?_
    refine sbY rfl (rfl) rfl ?_
    refine gY (g := 45) rfl rfl rfl ?_
    refine sc _ Tryd.func24 rfl (by kernel_rfl) rfl rfl ((awake_any _).mono ?_)
    rintro e_ w3 ⟨rfl, hb⟩
    refine cR ?_
    replace hbw := bthen hbw hb
    replace hB5 := hB5.bel hb
    replace hd := hd.bel hb
    have hz_w3 := hb.size
    clear hb
    refine st (X.pickT rfl rfl) rfl ?_
    refine sa rfl rfl ?_
    refine Wn ?_
    refine tN ?_
    refine W_ret (tR ?_)
    exact (rT rfl rfl ⟨rfl, hbw⟩).1
  · first | replace h33 := of_decide_eq_false h33 | replace h33 := of_decide_eq_true (notF h33) | replace h33 := notF h33 | skip
    refine gY (g := 33) rfl rfl rfl ?_
    refine st (X.fa fa52_1 rfl) rfl ?_
    refine gY (g := 33) rfl rfl rfl ?_
    refine st (X.ldL rfl hB5 Tryd.underlying9 rfl rfl) rfl ?_
    refine gY (g := 33) rfl rfl rfl ?_
    refine st (X.lenS rfl rfl Tryd.underlying9) rfl ?_
    refine gY (g := 33) rfl rfl rfl ?_
    refine st (X.gtr rfl rfl) rfl ?_
    refine st (X.pickF rfl rfl) rfl ?_
    refine Wn ?_
    refine tN ?_
    refine W_if rfl (fun h38 => ?_) (fun h38 => ?_)
    · first | replace h38 := of_decide_eq_true h38 | replace h38 := of_decide_eq_false (notT h38) | replace h38 := notT h38 | skip
      refine W_rs ?_
      refine sm rfl rfl ?_
      refine st (X.eql rfl rfl) rfl ?_
      refine sbY rfl (rfl) rfl ?_
      refine gY (g := 41) rfl rfl rfl ?_
      refine sm rfl rfl ?_
      refine gY (g := 41) rfl rfl rfl ?_
      refine st (X.dNe rfl) rfl ?_
      refine st (X.pickT rfl rfl) rfl ?_
      refine sbY rfl (rfl) rfl ?_
      refine gY (g := 45) rfl rfl rfl ?_
      refine sc _ Tryd.func24 rfl (by kernel_rfl) rfl rfl ((awake_any _).mono ?_)
      rintro e_ w4 ⟨rfl, hb⟩
      refine cR ?_
      replace hbw := bthen hbw hb
      replace hB5 := hB5.bel hb
      replace hd := hd.bel hb
      have hz_w4 := hb.size
      clear hb
      refine st (X.pickT rfl rfl) rfl ?_
      refine sa rfl rfl ?_
      refine Wn ?_
      refine tN ?_
      refine W_ret (tR ?_)
      exact (rT rfl rfl ⟨rfl, hbw⟩).1
    · first | replace h38 := of_decide_eq_false h38 | replace h38 := of_decide_eq_true (notF h38) | replace h38 := notF h38 | skip
      refine W_skip ?_
      refine tN ?_
      refine W_rs ?_
      refine sm rfl rfl ?_
      refine sm rfl rfl ?_
      refine sc _ Tryd.func25 rfl (by kernel_rfl) rfl rfl ((Create_any g (newM 10000) _ a _ hd.at_ u0.ok).mono ?_)
      rintro e_ w5 ⟨rfl, h1, hX⟩
      refine cR ?_
      have hdn := hd.step h1 hX (by have := hbw.size; omega)
      have hbwn := bchg hbw hX (fun k hk => by have := hd.lo k hk; omega)
      have hBn := hB5.chg hX (fun e => by have := hd.lo _ e; omega)
      have hzx := hX.size
      clear hd hbw h1 hX hB5
      have hd := hdn
      have hbw := hbwn
      have hB5 := hBn
      clear hdn hbwn hBn
      have u1 := create_good u0 a
      refine sa rfl rfl ?_
      refine Wn ?_
      refine tN ?_
      refine W_seq ?_
      refine W_rs ?_
      refine sm rfl rfl ?_
      refine sc _ Tryd.func31 rfl (by kernel_rfl) rfl rfl ((Name_any a _ ha).mono ?_)
      rintro e_ w6 ⟨rfl, hb⟩
      refine cR ?_
      replace hbw := bthen hbw hb
      replace hB5 := hB5.bel hb
      replace hd := hd.bel hb
      have hz_w6 := hb.size
      clear hb
      refine st (X.not rfl) rfl ?_
      refine sb rfl rfl (fun h54 => ?_) (fun h54 => ?_)
      · first | replace h54 := of_decide_eq_true h54 | replace h54 := of_decide_eq_false (notT h54) | replace h54 := notT h54 | skip
        refine gN (g := 54) rfl rfl rfl rfl ?_
        refine gN (g := 54) rfl rfl rfl rfl ?_
        refine gN (g := 54) rfl rfl rfl rfl ?_
        refine st (X.pickT rfl rfl) rfl ?_
        refine Wn ?_
        refine tN ?_
        refine W_yes rfl (rfl) ?_
        refine W_rs ?_
        refine sm rfl rfl ?_
        refine st (X.eql rfl rfl) rfl ?_
        refine sm rfl rfl ?_
        refine sc _ Tryd.func31 rfl (by kernel_rfl) rfl rfl ((Name_any a _ ha).mono ?_)
        rintro e_ w7 ⟨rfl, hb⟩
        refine cR ?_
        replace hbw := bthen hbw hb
        replace hB5 := hB5.bel hb
        replace hd := hd.bel hb
        have hz_w7 := hb.size
        clear hb
        refine st (X.beq (c := true) (.inl ⟨rfl, by rw [hcr]; simp⟩) Tryd.underlying4 rfl rfl) rfl ?_
        refine sbY rfl (rfl) rfl ?_
        refine gY (g := 64) rfl rfl rfl ?_
        refine sm rfl rfl ?_
        refine gY (g := 64) rfl rfl rfl ?_
        refine sc _ Tryd.func31 rfl (by kernel_rfl) rfl rfl ((Name_any b _ hb_).mono ?_)
        rintro e_ w8 ⟨rfl, hb⟩
        refine cR ?_
        replace hbw := bthen hbw hb
        replace hB5 := hB5.bel hb
        replace hd := hd.bel hb
        have hz_w8 := hb.size
        clear hb
        refine gY (g := 64) rfl rfl rfl ?_
        refine sb rfl rfl (fun h67 => ?_) (fun h67 => ?_)
        · first | replace h67 := of_decide_eq_true h67 | replace h67 := of_decide_eq_false (notT h67) | replace h67 := notT h67 | skip
          refine gN (g := 67) rfl rfl rfl rfl ?_
          refine gN (g := 67) rfl rfl rfl rfl ?_
          refine gN (g := 67) rfl rfl rfl rfl ?_
          refine gY (g := 64) rfl rfl rfl ?_
          refine st (X.pickT rfl rfl) rfl ?_
          refine gY (g := 64) rfl rfl rfl ?_
          refine sm rfl rfl ?_
          refine gN (g := 72) rfl rfl rfl rfl ?_
          refine gN (g := 72) rfl rfl rfl rfl ?_
          refine gN (g := 72) rfl rfl rfl rfl ?_
          refine gN (g := 72) rfl rfl rfl rfl ?_
          refine gN (g := 72) rfl rfl rfl rfl ?_
          refine gY (g := 64) rfl rfl rfl ?_
          refine st (X.pickT rfl rfl) rfl ?_
          refine st (X.pickT rfl rfl) rfl ?_
          refine sm rfl rfl ?_
          refine gY (g := 80) rfl rfl rfl ?_
          refine sc _ Tryd.func24 rfl (by kernel_rfl) rfl rfl ((awake_any _).mono ?_)
          rintro e_ w9 ⟨rfl, hb⟩
          refine cR ?_
          replace hbw := bthen hbw hb
          replace hB5 := hB5.bel hb
          replace hd := hd.bel hb
          have hz_w9 := hb.size
          clear hb
          refine st (X.pickT rfl rfl) rfl ?_
          refine sa rfl rfl ?_
          refine Wn ?_
          refine tN ?_
          refine W_ret (tR ?_)
          exact (rT rfl rfl ⟨rfl, hbw⟩).1
        · first | replace h67 := of_decide_eq_false h67 | replace h67 := of_decide_eq_true (notF h67) | replace h67 := notF h67 | skip
          refine gY (g := 67) rfl rfl rfl ?_
          refine sm rfl rfl ?_
          refine gY (g := 67) rfl rfl rfl ?_
          refine sc _ Tryd.func31 rfl (by kernel_rfl) rfl rfl ((Name_any a _ ha).mono ?_)
          rintro e_ w10 ⟨rfl, hb⟩
          refine cR ?_
          replace hbw := bthen hbw hb
          replace hB5 := hB5.bel hb
          replace hd := hd.bel hb
          have hz_w10 := hb.size
          clear hb
          refine gY (g := 67) rfl rfl rfl ?_
          refine st (X.not rfl) rfl ?_
          refine gY (g := 64) rfl rfl rfl ?_
          refine st (X.pickF rfl rfl) rfl ?_
          refine gY (g := 64) rfl rfl rfl ?_
          refine sbY rfl (by rw [h54]; rfl) rfl ?_
          refine gN (g := 72) rfl rfl rfl rfl ?_
          refine gN (g := 72) rfl rfl rfl rfl ?_
          refine gN (g := 72) rfl rfl rfl rfl ?_
          refine gN (g := 72) rfl rfl rfl rfl ?_
          refine gN (g := 72) rfl rfl rfl rfl ?_
          refine gY (g := 64) rfl rfl rfl ?_
          refine st (X.pickT rfl rfl) rfl ?_
          refine st (X.pickT rfl rfl) rfl ?_
          refine sm rfl rfl ?_
          refine gY (g := 80) rfl rfl rfl ?_
          refine sc _ Tryd.func24 rfl (by kernel_rfl) rfl rfl ((awake_any _).mono ?_)
          rintro e_ w11 ⟨rfl, hb⟩
          refine cR ?_
          replace hbw := bthen hbw hb
          replace hB5 := hB5.bel hb
          replace hd := hd.bel hb
          have hz_w11 := hb.size
          clear hb
          refine st (X.pickT rfl rfl) rfl ?_
          refine sa rfl rfl ?_
          refine Wn ?_
          refine tN ?_
          refine W_ret (tR ?_)
          exact (rT rfl rfl ⟨rfl, hbw⟩).1
      · first | replace h54 := of_decide_eq_false h54 | replace h54 := of_decide_eq_true (notF h54) | replace h54 := notF h54 | skip
        refine gY (g := 54) rfl rfl rfl ?_
        refine sm rfl rfl ?_
        refine gY (g := 54) rfl rfl rfl ?_
        refine sc _ Tryd.func31 rfl (by kernel_rfl) rfl rfl ((Name_any b _ hb_).mono ?_)
        rintro e_ w12 ⟨rfl, hb⟩
        refine cR ?_
        replace hbw := bthen hbw hb
        replace hB5 := hB5.bel hb
        replace hd := hd.bel hb
        have hz_w12 := hb.size
        clear hb
        refine gY (g := 54) rfl rfl rfl ?_
        refine st (X.not rfl) rfl ?_
        refine st (X.pickF rfl rfl) rfl ?_
        refine Wn ?_
        refine tN ?_
        refine W_if rfl (fun h58 => ?_) (fun h58 => ?_)
        · first | replace h58 := of_decide_eq_true h58 | replace h58 := of_decide_eq_false (notT h58) | replace h58 := notT h58 | skip
          refine W_rs ?_
          refine sm rfl rfl ?_
          refine st (X.eql rfl rfl) rfl ?_
          refine sm rfl rfl ?_
          refine sc _ Tryd.func31 rfl (by kernel_rfl) rfl rfl ((Name_any a _ ha).mono ?_)
          rintro e_ w13 ⟨rfl, hb⟩
          refine cR ?_
          replace hbw := bthen hbw hb
          replace hB5 := hB5.bel hb
          replace hd := hd.bel hb
          have hz_w13 := hb.size
          clear hb
          refine st (X.beq (c := true) (.inl ⟨rfl, by rw [hcr]; simp⟩) Tryd.underlying4 rfl rfl) rfl ?_
          refine sbY rfl (rfl) rfl ?_
          refine gY (g := 64) rfl rfl rfl ?_
          refine sm rfl rfl ?_
          refine gY (g := 64) rfl rfl rfl ?_
          refine sc _ Tryd.func31 rfl (by kernel_rfl) rfl rfl ((Name_any b _ hb_).mono ?_)
          rintro e_ w14 ⟨rfl, hb⟩
          refine cR ?_
          replace hbw := bthen hbw hb
          replace hB5 := hB5.bel hb
          replace hd := hd.bel hb
          have hz_w14 := hb.size
          clear hb
          refine gY (g := 64) rfl rfl rfl ?_
          refine sbN rfl (h58) rfl ?_
          refine gY (g := 67) rfl rfl rfl ?_
          refine sm rfl rfl ?_
          refine gY (g := 67) rfl rfl rfl ?_
          refine sc _ Tryd.func31 rfl (by kernel_rfl) rfl rfl ((Name_any a _ ha).mono ?_)
          rintro e_ w15 ⟨rfl, hb⟩
          refine cR ?_
          replace hbw := bthen hbw hb
          replace hB5 := hB5.bel hb
          replace hd := hd.bel hb
          have hz_w15 := hb.size
          clear hb
          refine gY (g := 67) rfl rfl rfl ?_
          refine st (X.not rfl) rfl ?_
          refine gY (g := 64) rfl rfl rfl ?_
          refine st (X.pickF rfl rfl) rfl ?_
          refine gY (g := 64) rfl rfl rfl ?_
          refine sbN rfl (by rw [h54]; rfl) rfl ?_
          refine gY (g := 72) rfl rfl rfl ?_
          refine sm rfl rfl ?_
          refine gY (g := 72) rfl rfl rfl ?_
          refine sm rfl rfl ?_
          refine gY (g := 72) rfl rfl rfl ?_
          refine sm rfl rfl ?_
          refine gY (g := 72) rfl rfl rfl ?_
          refine sc _ Tryd.func32 rfl (by kernel_rfl) rfl rfl ((Rename_any g _ _ a b _ hd.at_ u1.ok).mono ?_)
          rintro e_ w16 ⟨rfl, h1, hX⟩
          refine cR ?_
          have hdn := hd.step h1 hX (by have := hbw.size; omega)
          have hbwn := bchg hbw hX (fun k hk => by have := hd.lo k hk; omega)
          have hBn := hB5.chg hX (fun e => by have := hd.lo _ e; omega)
          have hzx := hX.size
          clear hd hbw h1 hX hB5
          have hd := hdn
          have hbw := hbwn
          have hB5 := hBn
          clear hdn hbwn hBn
          refine gY (g := 72) rfl rfl rfl ?_
          refine st (X.eql rfl rfl) rfl ?_
          refine gY (g := 64) rfl rfl rfl ?_
          refine st (X.pickF rfl rfl) rfl ?_
          refine st (X.pickT rfl rfl) rfl ?_
          refine sbY rfl (decide_eq_true (rename_bad (LastsAt.new h54).2 h58)) rfl ?_
          refine gY (g := 80) rfl rfl rfl ?_
          refine sc _ Tryd.func24 rfl (by kernel_rfl) rfl rfl ((awake_any _).mono ?_)
          rintro e_ w17 ⟨rfl, hb⟩
          refine cR ?_
          replace hbw := bthen hbw hb
          replace hB5 := hB5.bel hb
          replace hd := hd.bel hb
          have hz_w17 := hb.size
          clear hb
          refine st (X.pickT rfl rfl) rfl ?_
          refine sa rfl rfl ?_
          refine Wn ?_
          refine tN ?_
          refine W_ret (tR ?_)
          exact (rT rfl rfl ⟨rfl, hbw⟩).1
        · first | replace h58 := of_decide_eq_false h58 | replace h58 := of_decide_eq_true (notF h58) | replace h58 := notF h58 | skip
          have hL := (LastsAt.new (lim := 10000) h54).2
          refine W_skip ?_
          refine tN ?_
          refine W_rs ?_
          refine sm rfl rfl ?_
          refine sm rfl rfl ?_
          refine st (X.fa fa52_0 rfl) rfl ?_
          refine st (X.ldL rfl hB5 Tryd.underlying9 rfl rfl) rfl ?_
          refine sc _ Tryd.func26 rfl (by kernel_rfl) rfl rfl ((Append_any g _ _ a x _ hd.at_ u1.ok (u1.bud (by omega)) (by omega)).mono ?_)
          rintro e_ w18 ⟨rfl, h1, hX⟩
          refine cR ?_
          have hdn := hd.step h1 hX (by have := hbw.size; omega)
          have hbwn := bchg hbw hX (fun k hk => by have := hd.lo k hk; omega)
          have hBn := hB5.chg hX (fun e => by have := hd.lo _ e; omega)
          have hzx := hX.size
          clear hd hbw h1 hX hB5
          have hd := hdn
          have hbw := hbwn
          have hB5 := hBn
          clear hdn hbwn hBn
          have u2 := (append_good u1 a x).mono (m := 202) (by omega)
          replace hL := (hL.append (d := x) (by simp; omega)).2
          rw [List.nil_append] at hL
          refine Wn ?_
          refine tN ?_
          refine W_rs ?_
          refine sm rfl rfl ?_
          refine sm rfl rfl ?_
          refine sc _ Tryd.func27 rfl (by kernel_rfl) rfl rfl ((Sync_any g _ _ a _ hd.at_ u2.ok).mono ?_)
          rintro e_ w19 ⟨rfl, h1, hX⟩
          refine cR ?_
          have hdn := hd.step h1 hX (by have := hbw.size; omega)
          have hbwn := bchg hbw hX (fun k hk => by have := hd.lo k hk; omega)
          have hBn := hB5.chg hX (fun e => by have := hd.lo _ e; omega)
          have hzx := hX.size
          clear hd hbw h1 hX hB5
          have hd := hdn
          have hbw := hbwn
          have hB5 := hBn
          clear hdn hbwn hBn
          have u3 := sync_good u2 a
          replace hL := hL.sync
          rw [List.nil_append] at hL
          refine Wn ?_
          refine tN ?_
          refine W_rs ?_
          refine sm rfl rfl ?_
          refine sm rfl rfl ?_
          refine st (X.fa fa52_1 rfl) rfl ?_
          refine st (X.ldL rfl hB5 Tryd.underlying9 rfl rfl) rfl ?_
          refine sc _ Tryd.func26 rfl (by kernel_rfl) rfl rfl ((Append_any g _ _ a y _ hd.at_ u3.ok (u3.bud (by omega)) (by omega)).mono ?_)
          rintro e_ w20 ⟨rfl, h1, hX⟩
          refine cR ?_
          have hdn := hd.step h1 hX (by have := hbw.size; omega)
          have hbwn := bchg hbw hX (fun k hk => by have := hd.lo k hk; omega)
          have hBn := hB5.chg hX (fun e => by have := hd.lo _ e; omega)
          have hzx := hX.size
          clear hd hbw h1 hX hB5
          have hd := hdn
          have hbw := hbwn
          have hB5 := hBn
          clear hdn hbwn hBn
          have u4 := (append_good u3 a y).mono (m := 403) (by omega)
          replace hL := (hL.append (d := y) (by simp; omega)).2
          rw [List.nil_append] at hL
          refine Wn ?_
          refine tN ?_
          refine W_seq ?_
          refine W_rs ?_
          refine sm rfl rfl ?_
          refine sm rfl rfl ?_
          refine sm rfl rfl ?_
          refine sc _ Tryd.func32 rfl (by kernel_rfl) rfl rfl ((Rename_any g _ _ a b _ hd.at_ u4.ok).mono ?_)
          rintro e_ w21 ⟨rfl, h1, hX⟩
          refine cR ?_
          have hdn := hd.step h1 hX (by have := hbw.size; omega)
          have hbwn := bchg hbw hX (fun k hk => by have := hd.lo k hk; omega)
          have hBn := hB5.chg hX (fun e => by have := hd.lo _ e; omega)
          have hzx := hX.size
          clear hd hbw h1 hX hB5
          have hd := hdn
          have hbw := hbwn
          have hB5 := hBn
          clear hdn hbwn hBn
          have u5 := rename_good u4 a b
          have hre := (hL.rename h58).1
          replace hL := (hL.rename h58).2
          refine st (X.neq rfl rfl) rfl ?_
          refine sbN rfl (decide_eq_false (by rw [hre]; simp)) rfl ?_
          refine gY (g := 101) rfl rfl rfl ?_
          refine sm rfl rfl ?_
          refine gY (g := 101) rfl rfl rfl ?_
          refine sc _ Tryd.func33 rfl (by kernel_rfl) rfl rfl ((List_any g _ _ _ hd.at_ u5.ok.srt (by have := u5.few; omega)).mono ?_)
          rintro e_ w22 ⟨v1, rfl, hR1, hO1, hb⟩
          refine cR ?_
          replace hbw := bthen hbw hb
          replace hB5 := hB5.bel hb
          replace hd := hd.bel hb
          have hz_w22 := hb.size
          clear hb
          rw [hL.names] at hR1
          obtain ⟨a1, c1, hv1, _⟩ := hR1.shape
          subst hv1
          clear hR1 hO1
          refine gY (g := 101) rfl rfl rfl ?_
          refine st (X.lenL rfl rfl Tryd.underlying23) rfl ?_
          refine gY (g := 101) rfl rfl rfl ?_
          refine st (X.neq rfl rfl) rfl ?_
          refine st (X.pickF rfl rfl) rfl ?_
          refine sbN rfl (decide_eq_false (by simp)) rfl ?_
          refine gY (g := 107) rfl rfl rfl ?_
          refine sm rfl rfl ?_
          refine gY (g := 107) rfl rfl rfl ?_
          refine sc _ Tryd.func33 rfl (by kernel_rfl) rfl rfl ((List_any g _ _ _ hd.at_ u5.ok.srt (by have := u5.few; omega)).mono ?_)
          rintro e_ w23 ⟨v2, rfl, hR2, hO2, hb⟩
          refine cR ?_
          replace hbw := bthen hbw hb
          replace hB5 := hB5.bel hb
          replace hd := hd.bel hb
          have hz_w23 := hb.size
          clear hb
          rw [hL.names] at hR2
          obtain ⟨q2, o2, c2, hv2, _⟩ := hR2.reads.some_ (by simp)
          subst hv2
          refine gY (g := 107) rfl rfl rfl ?_
          refine st (X.idxA (j := 0) rfl rfl Tryd.underlying23 siz9 rfl (by simp)) rfl ?_
          refine gY (g := 107) rfl rfl rfl ?_
          refine st (X.ld rfl Tryd.underlying9 rfl (hR2.reads.cellAt (by simp) (j := 0) rfl)) rfl ?_
          refine gY (g := 107) rfl rfl rfl ?_
          refine sm rfl rfl ?_
          refine gY (g := 107) rfl rfl rfl ?_
          refine st (X.neS rfl rfl) rfl ?_
          refine st (X.pickF rfl rfl) rfl ?_
          refine Wn ?_
          refine tN ?_
          refine W_no rfl (decide_eq_false (fun e => e rfl)) ?_
          refine W_skip ?_
          refine tN ?_
          refine W_rs ?_
          refine sm rfl rfl ?_
          refine st (X.fa fa52_2 rfl) rfl ?_
          refine st (X.ldL rfl hB5 Tryd.underlying3 rfl rfl) rfl ?_
          have hlo := hd.lo
          refine sbs1 rfl Tryd.underlying56 inf3 rfl rfl (by decide) (by decide) rfl (fun g118 w24 hR118 hg118 hb => ?_)
          replace hbw := bthen hbw hb
          replace hB5 := hB5.bel hb
          replace hd := hd.bel hb
          have hz_w24 := hb.size
          clear hb
          have hl118 := hR118.blt (by decide)
          have hnS : ∀ S' : Nat → Prop, (∀ k, S' k → k < w24.heap.size) → True := fun _ _ => trivial
          refine sc _ Tryd.func28 rfl (by kernel_rfl) rfl rfl ((Crash_any g _ _ _ [pick] _ hd.at_ u5.ok (u5.bud (by omega)) (by have := u5.few; omega) hR118.reads (fun _ k hk h1 => by simp [Value.ownBlock] at hk; have := hlo k h1; omega)).mono ?_)
          rintro e_ w25 ⟨rfl, h1, hX⟩
          refine cR ?_
          have hdn := hd.step h1 hX (by have := hbw.size; omega)
          have hbwn := bchg hbw hX (fun k hk => by have := hd.lo k hk; omega)
          have hBn := hB5.chg hX (fun e => by have := hd.lo _ e; omega)
          have hzx := hX.size
          clear hd hbw h1 hX hB5
          have hd := hdn
          have hbw := hbwn
          have hB5 := hBn
          clear hdn hbwn hBn
          obtain ⟨kp, hkp⟩ : ∃ kp : Nat, (pick % ((y.length + 1 : Nat) : Int)).toNat = kp := ⟨_, rfl⟩
          have hkp2 := Int.emod_nonneg pick (b := ((y.length + 1 : Nat) : Int)) (by omega)
          have hkp3 := Int.emod_lt_of_pos pick (b := ((y.length + 1 : Nat) : Int)) (by omega)
          replace hL := hL.crash pick
          rw [hkp] at hL
          have u6 := crash_good u5 [pick]
          have ht1 := Int.tmod_lt_of_pos pick (b := (y.length : Int) + 1) (by omega)
          have ht2 := Int.lt_tmod_of_pos pick (b := (y.length : Int) + 1) (by omega)
          obtain ⟨q, hq⟩ : ∃ q, pick.tmod ((y.length : Int) + 1) = q := ⟨_, rfl⟩
          rw [hq] at ht1 ht2
          have hqk : (q + ((y.length : Int) + 1)) % ((y.length : Int) + 1) = (kp : Int) := by
            rw [mod_twice' _ _ _ hq, ← hkp, Int.toNat_of_nonneg hkp2]
            congr 1
          have hrl : (x ++ y.take kp).length ≤ 10000 := by rw [List.length_append, List.length_take]; omega
          have htk : (y.take kp).length ≤ 200 := by rw [List.length_take]; omega
          clear hlo hnS
          refine Wn ?_
          refine tN ?_
          refine W_rs ?_
          refine st (X.fa fa52_1 rfl) rfl ?_
          refine st (X.ldL rfl hB5 Tryd.underlying9 rfl rfl) rfl ?_
          refine st (X.lenS rfl rfl Tryd.underlying9) rfl ?_
          refine st (X.add64 rfl rfl (by omega)) rfl ?_
          refine sa rfl rfl ?_
          refine Wn ?_
          refine tN ?_
          refine W_rs ?_
          refine st (X.fa fa52_2 rfl) rfl ?_
          refine st (X.ldL rfl hB5 Tryd.underlying3 rfl rfl) rfl ?_
          refine sm rfl rfl ?_
          refine st (X.rem rfl rfl (by omega) hq) rfl ?_
          refine sm rfl rfl ?_
          refine st (X.add64 rfl rfl (by omega)) rfl ?_
          refine sm rfl rfl ?_
          refine st (X.rem64 rfl rfl (by omega) (by omega)) rfl ?_
          refine sa rfl rfl ?_
          refine Wn ?_
          refine tN ?_
          refine W_rs ?_
          refine sm rfl rfl ?_
          refine sm rfl rfl ?_
          refine sc _ Tryd.func29 rfl (by kernel_rfl) rfl rfl ((Read_is hd.at_ u6.ok (hL.read (n := 10000) (by rw [List.append_nil]; exact hrl))).mono ?_)
          rintro e_ w26 ⟨rfl, hb⟩
          refine cR ?_
          replace hbw := bthen hbw hb
          replace hB5 := hB5.bel hb
          replace hd := hd.bel hb
          have hz_w26 := hb.size
          clear hb
          refine sm rfl rfl ?_
          refine st (X.ext rfl rfl) rfl ?_
          refine st (X.ext rfl rfl) rfl ?_
          refine sa rfl rfl ?_
          refine sa rfl rfl ?_
          refine Wn ?_
          refine tN ?_
          refine W_rs ?_
          refine sm rfl rfl ?_
          refine sm rfl rfl ?_
          refine sc _ Tryd.func34 rfl (by kernel_rfl) rfl rfl ((Size_any g _ _ a _ hd.at_).mono ?_)
          rintro e_ w27 ⟨rfl, hb⟩
          refine cR ?_
          replace hbw := bthen hbw hb
          replace hB5 := hB5.bel hb
          replace hd := hd.bel hb
          have hz_w27 := hb.size
          clear hb
          refine sm rfl rfl ?_
          refine st (X.ext rfl rfl) rfl ?_
          refine st (X.ext rfl rfl) rfl ?_
          refine sa rfl rfl ?_
          refine sa rfl rfl ?_
          refine Wn ?_
          refine tN ?_
          refine W_seq ?_
          by_cases hsp_ : a = b
          · refine W_drsN (fun W_ => Blk W_ g5 52 #[str x, str y, .int .i64 pick]) [0, 1, 2, 3, 4, 5, 6, 7, 8, 9, 10, 11, 12, 13, 14, 15, 16, 17, 18, 19, 20, 21] [true, true, true, true, true, true, true, true, true, true, true, true, true, true, true, true, true, true, true, true, true, true] (by kernel_rfl) (by kernel_rfl) (hB5.drew) ?_
            obtain ⟨w28, hw_⟩ : ∃ w28 : World, w28 = World.drew w27 := ⟨_, rfl⟩
            rw [← hw_]
            have hb : Below w27.heap.size w27 w28 := by rw [hw_]; exact bdrew (Below.refl _ _)
            clear hw_
            have hS := hb
            replace hbw := bthen hbw hb
            replace hB5 := hB5.bel hb
            replace hd := hd.bel hb
            have hz_w28 := hb.size
            clear hb
            refine oY rfl (fun W_ hW_ => (X.move rfl)) rfl ?_
            refine oY rfl (fun W_ hW_ => (X.neq rfl rfl)) rfl ?_
            refine oY rfl (fun W_ hW_ => (X.mvB (c := false) rfl (rfl))) rfl ?_
            refine oYg (g := 146) rfl rfl rfl rfl (fun W_ hW_ => (X.move rfl)) rfl ?_
            refine oYg (g := 146) rfl rfl rfl rfl (fun W_ hW_ => (X.fa fa52_0 rfl)) rfl ?_
            refine oYg (g := 146) rfl rfl rfl rfl (fun W_ hW_ => (X.ldL rfl hW_ Tryd.underlying9 rfl rfl)) rfl ?_
            refine oYg (g := 146) rfl rfl rfl rfl (fun W_ hW_ => (X.fa fa52_1 rfl)) rfl ?_
            refine oYg (g := 146) rfl rfl rfl rfl (fun W_ hW_ => (X.ldL rfl hW_ Tryd.underlying9 rfl rfl)) rfl ?_
            refine oYg (g := 146) rfl rfl rfl rfl (fun W_ hW_ => (X.move rfl)) rfl ?_
            refine oYg (g := 146) rfl rfl rfl rfl (fun W_ hW_ => (X.toS (s := y) rfl rfl Tryd.underlying9 hqk (by omega))) rfl ?_
            refine oYg (g := 146) rfl rfl rfl rfl (fun W_ hW_ => (X.cat rfl rfl (by omega))) rfl ?_
            refine oYg (g := 146) rfl rfl rfl rfl (fun W_ hW_ => (X.neS rfl rfl)) rfl ?_
            refine oY rfl (fun W_ hW_ => (X.pickF rfl rfl)) rfl ?_
            refine oY rfl (fun W_ hW_ => (X.mvB (c := false) rfl (decide_eq_false (by simp)))) rfl ?_
            refine oYg (g := 157) rfl rfl rfl rfl (fun W_ hW_ => (X.move rfl)) rfl ?_
            refine oYg (g := 157) rfl rfl rfl rfl (fun W_ hW_ => (X.move rfl)) rfl ?_
            refine oYg (g := 157) rfl rfl rfl rfl (fun W_ hW_ => (X.neS rfl rfl)) rfl ?_
            refine oYg (g := 157) rfl rfl rfl rfl (fun W_ hW_ => (X.mvB (c := false) rfl (decide_eq_false (by simp [hsp_])))) rfl ?_
            refine oNg (g := 161) rfl rfl rfl rfl (hB5) rfl ?_
            refine oNg (g := 161) rfl rfl rfl rfl (hB5) rfl ?_
            refine oYg (g := 157) rfl rfl rfl rfl (fun W_ hW_ => (X.pickF rfl rfl)) rfl ?_
            refine oY rfl (fun W_ hW_ => (X.pickF rfl rfl)) rfl ?_
            refine oN ?_
            refine nN ?_
            refine W_no rfl (rfl) ?_
            refine W_skip ?_
            refine tN ?_
            refine W_rs ?_
            refine sm rfl rfl ?_
            refine sm rfl rfl ?_
            refine sc _ Tryd.func35 rfl (by kernel_rfl) rfl rfl ((Remove_any g _ _ b _ hd.at_ u6.ok).mono ?_)
            rintro e_ w29 ⟨rfl, h1, hX⟩
            refine cR ?_
            have hdn := hd.step h1 hX (by have := hbw.size; omega)
            have hbwn := bchg hbw hX (fun k hk => by have := hd.lo k hk; omega)
            have hBn := hB5.chg hX (fun e => by have := hd.lo _ e; omega)
            have hzx := hX.size
            clear hd hbw h1 hX hB5
            have hd := hdn
            have hbw := hbwn
            have hB5 := hBn
            clear hdn hbwn hBn
            have u7 := remove_good u6 b
            obtain ⟨hr1, hr2, hr3⟩ := hL.remove
            refine sa rfl rfl ?_
            refine Wn ?_
            refine tN ?_
            refine W_rs ?_
            refine sm rfl rfl ?_
            refine sc _ Tryd.func28 rfl (by kernel_rfl) rfl rfl ((Crash_any g _ _ _ [] _ hd.at_ u7.ok (u7.bud (by omega)) (by have := u7.few; omega) (Row.nil _ 3 _).reads (fun h => absurd h (by simp))).mono ?_)
            rintro e_ w30 ⟨rfl, h1, hX⟩
            refine cR ?_
            have hdn := hd.step h1 hX (by have := hbw.size; omega)
            have hbwn := bchg hbw hX (fun k hk => by have := hd.lo k hk; omega)
            have hBn := hB5.chg hX (fun e => by have := hd.lo _ e; omega)
            have hzx := hX.size
            clear hd hbw h1 hX hB5
            have hd := hdn
            have hbw := hbwn
            have hB5 := hBn
            clear hdn hbwn hBn
            have u8 := crash_good u7 []
            obtain ⟨hn8, hu8⟩ := crash_nilf hr2
            refine Wn ?_
            refine tN ?_
            refine W_rs ?_
            refine sm rfl rfl ?_
            refine st (X.eql rfl rfl) rfl ?_
            refine sbY rfl (decide_eq_true hr1) rfl ?_
            refine gY (g := 173) rfl rfl rfl ?_
            refine sm rfl rfl ?_
            refine gY (g := 173) rfl rfl rfl ?_
            refine sc _ Tryd.func33 rfl (by kernel_rfl) rfl rfl ((List_any g _ _ _ hd.at_ u8.ok.srt (by have := u8.few; omega)).mono ?_)
            rintro e_ w31 ⟨v3, rfl, hR3, hO3, hb⟩
            refine cR ?_
            replace hbw := bthen hbw hb
            replace hB5 := hB5.bel hb
            replace hd := hd.bel hb
            have hz_w31 := hb.size
            clear hb
            rw [hn8] at hR3
            obtain ⟨a3, c3, hv3, _⟩ := hR3.shape
            subst hv3
            refine gY (g := 173) rfl rfl rfl ?_
            refine st (X.lenL rfl rfl Tryd.underlying23) rfl ?_
            refine gY (g := 173) rfl rfl rfl ?_
            refine st (X.eql rfl rfl) rfl ?_
            refine st (X.pickT rfl rfl) rfl ?_
            refine sbY rfl (rfl) rfl ?_
            refine gY (g := 179) rfl rfl rfl ?_
            refine sm rfl rfl ?_
            refine gY (g := 179) rfl rfl rfl ?_
            refine sc _ Tryd.func30 rfl (by kernel_rfl) rfl rfl ((Used_any g _ _ _ hd.at_).mono ?_)
            rintro e_ w32 ⟨rfl, hb⟩
            refine cR ?_
            replace hbw := bthen hbw hb
            replace hB5 := hB5.bel hb
            replace hd := hd.bel hb
            have hz_w32 := hb.size
            clear hb
            refine gY (g := 179) rfl rfl rfl ?_
            refine st (X.eql rfl rfl) rfl ?_
            refine st (X.pickT rfl rfl) rfl ?_
            refine sbY rfl (decide_eq_true hu8) rfl ?_
            refine gY (g := 184) rfl rfl rfl ?_
            refine sc _ Tryd.func24 rfl (by kernel_rfl) rfl rfl ((awake_any _).mono ?_)
            rintro e_ w33 ⟨rfl, hb⟩
            refine cR ?_
            replace hbw := bthen hbw hb
            replace hB5 := hB5.bel hb
            replace hd := hd.bel hb
            have hz_w33 := hb.size
            clear hb
            refine st (X.pickT rfl rfl) rfl ?_
            refine sa rfl rfl ?_
            refine Wn ?_
            refine tN ?_
            refine W_ret ?_
            exact (rT rfl rfl ⟨rfl, hbw⟩).1
          · refine W_drsN (fun W_ => Blk W_ g5 52 #[str x, str y, .int .i64 pick]) [0, 1, 2, 3, 4, 5, 6, 7, 8, 9, 10, 11, 12, 13, 14, 15, 16, 17, 18, 19, 20, 21] [true, true, true, true, true, true, true, true, true, true, true, true, true, true, true, true, true, true, true, true, true, true] (by kernel_rfl) (by kernel_rfl) (hB5.drew) ?_
            obtain ⟨w34, hw_⟩ : ∃ w34 : World, w34 = World.drew w27 := ⟨_, rfl⟩
            rw [← hw_]
            have hb : Below w27.heap.size w27 w34 := by rw [hw_]; exact bdrew (Below.refl _ _)
            clear hw_
            have hS := hb
            replace hbw := bthen hbw hb
            replace hB5 := hB5.bel hb
            replace hd := hd.bel hb
            have hz_w34 := hb.size
            clear hb
            refine oY rfl (fun W_ hW_ => (X.move rfl)) rfl ?_
            refine oY rfl (fun W_ hW_ => (X.neq rfl rfl)) rfl ?_
            refine oY rfl (fun W_ hW_ => (X.mvB (c := false) rfl (rfl))) rfl ?_
            refine oYg (g := 146) rfl rfl rfl rfl (fun W_ hW_ => (X.move rfl)) rfl ?_
            refine oYg (g := 146) rfl rfl rfl rfl (fun W_ hW_ => (X.fa fa52_0 rfl)) rfl ?_
            refine oYg (g := 146) rfl rfl rfl rfl (fun W_ hW_ => (X.ldL rfl hW_ Tryd.underlying9 rfl rfl)) rfl ?_
            refine oYg (g := 146) rfl rfl rfl rfl (fun W_ hW_ => (X.fa fa52_1 rfl)) rfl ?_
            refine oYg (g := 146) rfl rfl rfl rfl (fun W_ hW_ => (X.ldL rfl hW_ Tryd.underlying9 rfl rfl)) rfl ?_
            refine oYg (g := 146) rfl rfl rfl rfl (fun W_ hW_ => (X.move rfl)) rfl ?_
            refine oYg (g := 146) rfl rfl rfl rfl (fun W_ hW_ => (X.toS (s := y) rfl rfl Tryd.underlying9 hqk (by omega))) rfl ?_
            refine oYg (g := 146) rfl rfl rfl rfl (fun W_ hW_ => (X.cat rfl rfl (by omega))) rfl ?_
            refine oYg (g := 146) rfl rfl rfl rfl (fun W_ hW_ => (X.neS rfl rfl)) rfl ?_
            refine oY rfl (fun W_ hW_ => (X.pickF rfl rfl)) rfl ?_
            refine oY rfl (fun W_ hW_ => (X.mvB (c := false) rfl (decide_eq_false (by simp)))) rfl ?_
            refine oYg (g := 157) rfl rfl rfl rfl (fun W_ hW_ => (X.move rfl)) rfl ?_
            refine oYg (g := 157) rfl rfl rfl rfl (fun W_ hW_ => (X.move rfl)) rfl ?_
            refine oYg (g := 157) rfl rfl rfl rfl (fun W_ hW_ => (X.neS rfl rfl)) rfl ?_
            refine oYg (g := 157) rfl rfl rfl rfl (fun W_ hW_ => (X.mvB (c := true) rfl (decide_eq_true hsp_))) rfl ?_
            refine oYg (g := 161) rfl rfl rfl rfl (fun W_ hW_ => (X.move rfl)) rfl ?_
            refine oYg (g := 161) rfl rfl rfl rfl (fun W_ hW_ => (X.neq rfl rfl)) rfl ?_
            refine oYg (g := 157) rfl rfl rfl rfl (fun W_ hW_ => (X.pickT rfl rfl)) rfl ?_
            refine oY rfl (fun W_ hW_ => (X.pickF rfl rfl)) rfl ?_
            refine oN ?_
            refine nN ?_
            refine W_no rfl (decide_eq_false (by rw [hL.size hsp_]; simp)) ?_
            refine W_skip ?_
            refine tN ?_
            refine W_rs ?_
            refine sm rfl rfl ?_
            refine sm rfl rfl ?_
            refine sc _ Tryd.func35 rfl (by kernel_rfl) rfl rfl ((Remove_any g _ _ b _ hd.at_ u6.ok).mono ?_)
            rintro e_ w35 ⟨rfl, h1, hX⟩
            refine cR ?_
            have hdn := hd.step h1 hX (by have := hbw.size; omega)
            have hbwn := bchg hbw hX (fun k hk => by have := hd.lo k hk; omega)
            have hBn := hB5.chg hX (fun e => by have := hd.lo _ e; omega)
            have hzx := hX.size
            clear hd hbw h1 hX hB5
            have hd := hdn
            have hbw := hbwn
            have hB5 := hBn
            clear hdn hbwn hBn
            have u7 := remove_good u6 b
            obtain ⟨hr1, hr2, hr3⟩ := hL.remove
            refine sa rfl rfl ?_
            refine Wn ?_
            refine tN ?_
            refine W_rs ?_
            refine sm rfl rfl ?_
            refine sc _ Tryd.func28 rfl (by kernel_rfl) rfl rfl ((Crash_any g _ _ _ [] _ hd.at_ u7.ok (u7.bud (by omega)) (by have := u7.few; omega) (Row.nil _ 3 _).reads (fun h => absurd h (by simp))).mono ?_)
            rintro e_ w36 ⟨rfl, h1, hX⟩
            refine cR ?_
            have hdn := hd.step h1 hX (by have := hbw.size; omega)
            have hbwn := bchg hbw hX (fun k hk => by have := hd.lo k hk; omega)
            have hBn := hB5.chg hX (fun e => by have := hd.lo _ e; omega)
            have hzx := hX.size
            clear hd hbw h1 hX hB5
            have hd := hdn
            have hbw := hbwn
            have hB5 := hBn
            clear hdn hbwn hBn
            have u8 := crash_good u7 []
            obtain ⟨hn8, hu8⟩ := crash_nilf hr2
            refine Wn ?_
            refine tN ?_
            refine W_rs ?_
            refine sm rfl rfl ?_
            refine st (X.eql rfl rfl) rfl ?_
            refine sbY rfl (decide_eq_true hr1) rfl ?_
            refine gY (g := 173) rfl rfl rfl ?_
            refine sm rfl rfl ?_
            refine gY (g := 173) rfl rfl rfl ?_
            refine sc _ Tryd.func33 rfl (by kernel_rfl) rfl rfl ((List_any g _ _ _ hd.at_ u8.ok.srt (by have := u8.few; omega)).mono ?_)
            rintro e_ w37 ⟨v3, rfl, hR3, hO3, hb⟩
            refine cR ?_
            replace hbw := bthen hbw hb
            replace hB5 := hB5.bel hb
            replace hd := hd.bel hb
            have hz_w37 := hb.size
            clear hb
            rw [hn8] at hR3
            obtain ⟨a3, c3, hv3, _⟩ := hR3.shape
            subst hv3
            refine gY (g := 173) rfl rfl rfl ?_
            refine st (X.lenL rfl rfl Tryd.underlying23) rfl ?_
            refine gY (g := 173) rfl rfl rfl ?_
            refine st (X.eql rfl rfl) rfl ?_
            refine st (X.pickT rfl rfl) rfl ?_
            refine sbY rfl (rfl) rfl ?_
            refine gY (g := 179) rfl rfl rfl ?_
            refine sm rfl rfl ?_
            refine gY (g := 179) rfl rfl rfl ?_
            refine sc _ Tryd.func30 rfl (by kernel_rfl) rfl rfl ((Used_any g _ _ _ hd.at_).mono ?_)
            rintro e_ w38 ⟨rfl, hb⟩
            refine cR ?_
            replace hbw := bthen hbw hb
            replace hB5 := hB5.bel hb
            replace hd := hd.bel hb
            have hz_w38 := hb.size
            clear hb
            refine gY (g := 179) rfl rfl rfl ?_
            refine st (X.eql rfl rfl) rfl ?_
            refine st (X.pickT rfl rfl) rfl ?_
            refine sbY rfl (decide_eq_true hu8) rfl ?_
            refine gY (g := 184) rfl rfl rfl ?_
            refine sc _ Tryd.func24 rfl (by kernel_rfl) rfl rfl ((awake_any _).mono ?_)
            rintro e_ w39 ⟨rfl, hb⟩
            refine cR ?_
            replace hbw := bthen hbw hb
            replace hB5 := hB5.bel hb
            replace hd := hd.bel hb
            have hz_w39 := hb.size
            clear hb
            refine st (X.pickT rfl rfl) rfl ?_
            refine sa rfl rfl ?_
            refine Wn ?_
            refine tN ?_
            refine W_ret ?_
            exact (rT rfl rfl ⟨rfl, hbw⟩).1
end Go.Proofs.YtnijmegalgoipaaDoor
