/- The law JournalChecks. -/
import Derived.Test.YtnijmegalgoipaaGreatDoorJrnOrderL
namespace Go.Proofs.YtnijmegalgoipaaGreatDoor
open Go.RowKit
set_option maxRecDepth 10000 in
theorem JournalChecks_walk (w : World) (vl : Value) (l : List (List UInt8)) (hL : Reads w 1 vl l.length (l.map str)) (s : List UInt8) (_hs : s.length ≤ 9223372036854775807) (vp : Value) (ps : List Int) (hP_0 : Reads w 1 vp ps.length (ps.map fun k => .int .i64 k)) :
    Calls Tryz.prog 5 #[vl, str s, vp] w fun e w' => e = .returned (.bool true) ∧ Below w.heap.size w w' := by
  obtain ⟨al, cl, rfl, hl1, hl2⟩ := hL.shape
  obtain ⟨ap, cp, rfl, hp1, hp2⟩ := hP_0.shape
  refine W_enter (args := [.slice al l.length cl, str s, .slice ap ps.length cp]) 150 Tryz.func5 rfl rfl rfl ?_
  refine W_sub [(0, .slice al l.length cl), (1, str s), (2, .slice ap ps.length cp)] ?_ ⟨rfl, rfl, rfl, trivial⟩
  have hbw := Below.refl w.heap.size w
  refine W_rs ?_
  refine sa rfl rfl ?_
  refine Wn ?_
  refine tN ?_
  refine W_seq ?_
  refine W_rs ?_
  refine sm rfl rfl ?_
  refine st (X.lenL rfl rfl Tryz.underlying42) rfl ?_
  refine st (X.gtr rfl rfl) rfl ?_
  refine sb rfl rfl (fun h22 => ?_) (fun h22 => ?_)
  · first | replace h22 := of_decide_eq_true h22 | replace h22 := of_decide_eq_false (notT h22) | replace h22 := notT h22 | skip
    refine gN (g := 22) rfl rfl rfl rfl ?_
    refine gN (g := 22) rfl rfl rfl rfl ?_
    refine gN (g := 22) rfl rfl rfl rfl ?_
    refine st (X.pickT rfl rfl) rfl ?_
    refine sm rfl rfl ?_
    refine gN (g := 27) rfl rfl rfl rfl ?_
    refine gN (g := 27) rfl rfl rfl rfl ?_
    refine gN (g := 27) rfl rfl rfl rfl ?_
    refine st (X.pickT rfl rfl) rfl ?_
    refine Wn ?_
    refine tN ?_
    refine W_yes rfl (rfl) ?_
    refine W_rs ?_
    refine sc _ Tryz.func17 rfl (by kernel_rfl) rfl rfl ((awake16_any _).mono ?_)
    rintro e_ w1 ⟨rfl, hb⟩
    refine cR ?_
    replace hbw := bthen hbw hb
    have hz_w1 := hb.size
    clear hb
    refine sa rfl rfl ?_
    refine Wn ?_
    refine tN ?_
    refine W_ret (tR ?_)
    exact (rT rfl rfl ⟨rfl, hbw⟩).1
  · first | replace h22 := of_decide_eq_false h22 | replace h22 := of_decide_eq_true (notF h22) | replace h22 := notF h22 | skip
    refine gY (g := 22) rfl rfl rfl ?_
    refine sm rfl rfl ?_
    refine gY (g := 22) rfl rfl rfl ?_
    refine st (X.lenS rfl rfl Tryz.underlying9) rfl ?_
    refine gY (g := 22) rfl rfl rfl ?_
    refine st (X.gtr rfl rfl) rfl ?_
    refine st (X.pickF rfl rfl) rfl ?_
    refine sb rfl rfl (fun h27 => ?_) (fun h27 => ?_)
    · first | replace h27 := of_decide_eq_true h27 | replace h27 := of_decide_eq_false (notT h27) | replace h27 := notT h27 | skip
      refine gN (g := 27) rfl rfl rfl rfl ?_
      refine gN (g := 27) rfl rfl rfl rfl ?_
      refine gN (g := 27) rfl rfl rfl rfl ?_
      refine st (X.pickT rfl rfl) rfl ?_
      refine Wn ?_
      refine tN ?_
      refine W_yes rfl (rfl) ?_
      refine W_rs ?_
      refine sc _ Tryz.func17 rfl (by kernel_rfl) rfl rfl ((awake16_any _).mono ?_)
      rintro e_ w2 ⟨rfl, hb⟩
      refine cR ?_
      replace hbw := bthen hbw hb
      have hz_w2 := hb.size
      clear hb
      refine sa rfl rfl ?_
      refine Wn ?_
      refine tN ?_
      refine W_ret (tR ?_)
      exact (rT rfl rfl ⟨rfl, hbw⟩).1
    · first | replace h27 := of_decide_eq_false h27 | replace h27 := of_decide_eq_true (notF h27) | replace h27 := notF h27 | skip
      refine gY (g := 27) rfl rfl rfl ?_
      refine sm rfl rfl ?_
      refine gY (g := 27) rfl rfl rfl ?_
      refine st (X.lenL rfl rfl Tryz.underlying34) rfl ?_
      refine gY (g := 27) rfl rfl rfl ?_
      refine st (X.gtr rfl rfl) rfl ?_
      refine st (X.pickF rfl rfl) rfl ?_
      refine Wn ?_
      refine tN ?_
      refine W_if rfl (fun h31 => ?_) (fun h31 => ?_)
      · first | replace h31 := of_decide_eq_true h31 | replace h31 := of_decide_eq_false (notT h31) | replace h31 := notT h31 | skip
        refine W_rs ?_
        refine sc _ Tryz.func17 rfl (by kernel_rfl) rfl rfl ((awake16_any _).mono ?_)
        rintro e_ w3 ⟨rfl, hb⟩
        refine cR ?_
        replace hbw := bthen hbw hb
        have hz_w3 := hb.size
        clear hb
        refine sa rfl rfl ?_
        refine Wn ?_
        refine tN ?_
        refine W_ret (tR ?_)
        exact (rT rfl rfl ⟨rfl, hbw⟩).1
      · first | replace h31 := of_decide_eq_false h31 | replace h31 := of_decide_eq_true (notF h31) | replace h31 := notF h31 | skip
        refine W_skip ?_
        refine tN ?_
        refine W_rs ?_
        refine sc _ Tryz.func9 rfl (by kernel_rfl) rfl rfl ((New_ok 1048576 _ (by omega)).mono ?_)
        rintro e_ w4 ⟨gd, S0, rfl, h0, hS0, hb⟩
        refine cR ?_
        replace hbw := bthen hbw hb
        have hz_w4 := hb.size
        clear hb
        have hd : Own w.heap.size w4 gd (newM 1048576) S0 := ⟨h0, fun k hk => by have := hS0 k hk; have := hbw.size; omega⟩
        clear h0 hS0
        refine sm rfl rfl ?_
        refine st (X.ext rfl rfl) rfl ?_
        refine st (X.ext rfl rfl) rfl ?_
        refine sa rfl rfl ?_
        refine sa rfl rfl ?_
        refine Wn ?_
        refine tN ?_
        refine W_rs ?_
        refine sm rfl rfl ?_
        have hO := Open_any w.heap.size gd (newM 1048576) S0 0 w4 hd hbw.size (Good.new (by omega)) (by omega)
        rw [open_new] at hO
        refine sc _ Tryz.func18 rfl (by kernel_rfl) rfl rfl ((hO).mono ?_)
        rintro e_ w5 ⟨S1, hd1, hS1, hX, gj, v1, rfl, hj, hgj, hv1⟩
        refine cR ?_
        replace hbw := bchg hbw hX (fun k hk => (hd.lo k hk).1)
        have hz_w5 := hX.size
        clear hd hd1 hX hO
        refine sm rfl rfl ?_
        refine st (X.ext rfl rfl) rfl ?_
        refine st (X.ext rfl rfl) rfl ?_
        refine sa rfl rfl ?_
        refine sa rfl rfl ?_
        refine Wn ?_
        refine tN ?_
        refine W_seq ?_
        refine W_rs ?_
        refine sm rfl rfl ?_
        refine st (X.neq rfl rfl) rfl ?_
        refine sbN rfl (rfl) rfl ?_
        refine gY (g := 44) rfl rfl rfl ?_
        refine sm rfl rfl ?_
        refine gY (g := 44) rfl rfl rfl ?_
        refine st (X.jEq rfl) rfl ?_
        refine st (X.pickF rfl rfl) rfl ?_
        refine Wn ?_
        refine tN ?_
        refine W_no rfl (rfl) ?_
        refine W_skip ?_
        refine tN ?_
        refine W_seq ?_
        refine W_rs ?_
        refine sa rfl rfl ?_
        refine Wn ?_
        refine tN ?_
        refine W_block ?_
        refine W_lp (fun nw6_ lw6_ w6 => ∃ i : Nat, ∃ F : List UInt8, ∃ d : List (List UInt8), ∃ v : Value, ∃ S : Nat → Prop, nw6_ = l.length - i ∧ lw6_ = ([(0, .slice al l.length cl), (1, str s), (2, .slice ap ps.length cp), (7, .pointer (some ⟨gd, 0, none⟩)), (9, .pointer (some ⟨gj, 0, none⟩)), (11, .int .i64 i)] : Env) ∧ (JAll w.heap.size w6 gd gj (jd F) (jo d (i + 1) 0 []) v S) ∧ (FitJ F (jo d (i + 1) 0 [])) ∧ (i ≤ l.length) ∧ (F.length ≤ i * 400) ∧ (d.length ≤ i) ∧ (Below w.heap.size w w6)) _ ⟨_, ⟨0, [], [], v1, S1, rfl, rfl, hj, FitJ.new, by omega, by simp, by simp, hbw⟩, ⟨rfl, rfl, rfl, rfl, rfl, rfl, trivial⟩⟩ ?_
        clear hj hbw
        rintro nw6_ lw6_ w6 ⟨i, F, d, v, S, rfl, rfl, hj, hfit, hi, hF, hdl, hbw⟩
        have hz_w6 := hbw.size
        refine W_seq ?_
        refine W_rs ?_
        refine sm rfl rfl ?_
        refine sm rfl rfl ?_
        refine st (X.lenL rfl rfl Tryz.underlying42) rfl ?_
        refine st (X.lss rfl rfl) rfl ?_
        refine Wn ?_
        refine tN ?_
        refine W_if rfl (fun h51 => ?_) (fun h51 => ?_)
        · first | replace h51 := of_decide_eq_true h51 | replace h51 := of_decide_eq_false (notT h51) | replace h51 := notT h51 | skip
          obtain ⟨x, hx⟩ : ∃ x, l[i]? = some x := ⟨_, List.getElem?_eq_getElem (by omega)⟩
          have hux : (l.map str)[i]? = some (str x) := by rw [List.getElem?_map, hx]; rfl
          obtain ⟨g1, o1, c', hv, hg1⟩ := hL.some_ (by omega)
          injection hv with e1 _ e3
          subst e1 e3
          refine W_skip ?_
          refine tN ?_
          refine W_seq ?_
          refine W_block ?_
          refine W_seq ?_
          refine W_rs ?_
          refine sm rfl rfl ?_
          refine sm rfl rfl ?_
          refine st (X.idxA rfl rfl Tryz.underlying42 siz9 rfl (by omega)) rfl ?_
          refine st (X.ld rfl Tryz.underlying9 rfl (by rw [Nat.mul_one]; exact (hL.bel hbw).cellAt (by omega) hux)) rfl ?_
          refine st (X.lenS rfl rfl Tryz.underlying9) rfl ?_
          refine st (X.gtr rfl rfl) rfl ?_
          refine Wn ?_
          refine tN ?_
          refine W_if rfl (fun h59 => ?_) (fun h59 => ?_)
          · first | replace h59 := of_decide_eq_true h59 | replace h59 := of_decide_eq_false (notT h59) | replace h59 := notT h59 | skip
            refine W_rs ?_
            refine sc _ Tryz.func17 rfl (by kernel_rfl) rfl rfl ((awake16_any _).mono ?_)
            rintro e_ w7 ⟨rfl, hb⟩
            refine cR ?_
            replace hbw := bthen hbw hb
            replace hj := hj.bel hb
            have hz_w7 := hb.size
            clear hb
            refine sa rfl rfl ?_
            refine Wn ?_
            refine tN ?_
            refine W_ret (tR (bR (tR (tR (bR (tR ?_))))))
            exact (rT rfl rfl ⟨rfl, hbw⟩).1
          · first | replace h59 := of_decide_eq_false h59 | replace h59 := of_decide_eq_true (notF h59) | replace h59 := notF h59 | skip
            have hfit1 := jo_intF hfit (x := x) (by omega) (by omega) (by omega)
            have hsl := sealM_length 4 (four ((i + 1 : Nat) : Int) ++ x)
            rw [List.length_append, four_length] at hsl
            have hsl5 := sealM_length 5 (four ((i + 1 : Nat) : Int))
            rw [four_length] at hsl5
            obtain ⟨F1, hF1⟩ : ∃ F1, F ++ sealM 4 (four ((i + 1 : Nat) : Int) ++ x) = F1 := ⟨_, rfl⟩
            have hF1l : F1.length ≤ i * 400 + 320 := by rw [← hF1, List.length_append]; omega
            rw [hF1] at hfit1
            have hfit2 := jo_comF hfit1 (by omega) (by omega) (by omega)
            obtain ⟨F2, hFq⟩ : ∃ F2, F1 ++ sealM 5 (four ((i + 1 : Nat) : Int)) = F2 := ⟨_, rfl⟩
            have hF2 : F2.length ≤ (i + 1) * 400 := by rw [← hFq, List.length_append]; omega
            have hdl2 : (d ++ [x]).length ≤ i + 1 := by rw [List.length_append]; simp; omega
            rw [hFq] at hfit2
            refine W_skip ?_
            refine tN ?_
            refine W_rs ?_
            refine sm rfl rfl ?_
            refine sm rfl rfl ?_
            refine sm rfl rfl ?_
            refine st (X.idxA rfl rfl Tryz.underlying42 siz9 rfl (by omega)) rfl ?_
            refine st (X.ld rfl Tryz.underlying9 rfl (by rw [Nat.mul_one]; exact (hL.bel hbw).cellAt (by omega) hux)) rfl ?_
            have hI := Intent_any w.heap.size gd gj (jd F) (jo d (i + 1) 0 []) v S w6 hj x 1 (jd_good (by omega)) (by omega) (by omega) (by show i + 1 ≤ _; omega)
            rw [jo_int hfit (by omega) (by omega) (by omega), hF1] at hI
            simp only at hI
            refine sc _ Tryz.func19 rfl (by kernel_rfl) rfl rfl ((hI).mono ?_)
            rintro e_ w8 ⟨rfl, hP1⟩
            refine cR ?_
            obtain ⟨v, S, hj', _, _, hX⟩ := hP1
            have hbw' := hj.below hbw hX
            have hz_w8 := hX.size
            clear hj hX hI hbw
            have hj := hj'
            have hbw := hbw'
            clear hj' hbw'
            refine sm rfl rfl ?_
            refine st (X.ext rfl rfl) rfl ?_
            refine st (X.ext rfl rfl) rfl ?_
            refine sa rfl rfl ?_
            refine sa rfl rfl ?_
            refine Wn ?_
            refine tN ?_
            refine W_reg ?_
            refine sm rfl rfl ?_
            refine sm rfl rfl ?_
            have hI := Commit_any w.heap.size gd gj (jd F1) (jo d (i + 1 + 1) (i + 1) x) v S w8 hj ((i + 1 : Nat) : Int) 1 (jd_good (by omega)) (by omega) (by show d.length ≤ _; omega)
            rw [jo_com hfit1 (by omega) (by omega) (by omega), hFq] at hI
            simp only at hI
            refine sc _ Tryz.func20 rfl (by kernel_rfl) rfl rfl ((hI).mono ?_)
            rintro e_ w9 ⟨rfl, hP1⟩
            refine cR ?_
            obtain ⟨v, S, hj', _, _, hX⟩ := hP1
            have hbw' := hj.below hbw hX
            have hz_w9 := hX.size
            clear hj hX hI hbw
            have hj := hj'
            have hbw := hbw'
            clear hj' hbw'
            refine Wn ?_
            refine bN ?_
            refine tN ?_
            refine W_reg ?_
            refine sm rfl rfl ?_
            refine st (X.add64 rfl rfl (by omega)) rfl ?_
            refine sa rfl rfl ?_
            refine Wn ?_
            refine tN ⟨_, _, ?_, ⟨i + 1, _, _, _, _, rfl, rfl, hj, hfit2, by omega, hF2, hdl2, hbw⟩, ⟨rfl, rfl, rfl, rfl, rfl, rfl, trivial⟩⟩
            omega
        · first | replace h51 := of_decide_eq_false h51 | replace h51 := of_decide_eq_true (notF h51) | replace h51 := notF h51 | skip
          refine W_exit (tE (tE (bH ?_)))
          refine tN ?_
          refine W_rs ?_
          refine sm rfl rfl ?_
          refine sm rfl rfl ?_
          obtain ⟨hck, hfc⟩ := check_jd (F := F) (s := s) (J := jo d (i + 1) 0 []) rfl rfl (by omega) (by omega) (by show i + 1 < _; omega) (by show 1 ≤ i + 1; omega)
          obtain ⟨G, hG⟩ : ∃ G, sealM 6 (four (((i + 1 : Nat) : Int)) ++ s) = G := ⟨_, rfl⟩
          have hGl : G.length = 1 + (uvB (4 + s.length)).length + (4 + s.length) + 4 := by rw [← hG, seal_length (by decide) (by rw [List.length_append, four_length]; omega), List.length_append, four_length]
          have hul := uvB_length (4 + s.length) (by omega)
          have hck2 : checkJ (jd F) (jo d (i + 1) 0 []) s = (0, jd G, ⟨⟨s, [], i + 1, 0, 0, []⟩, false⟩) := by rw [← hG]; exact hck
          have hfc2 : FitJ G ⟨⟨s, [], i + 1, 0, 0, []⟩, false⟩ := by rw [← hG]; exact hfc
          have hgG := jd_good (F := G) (by omega)
          have hI := Checkpoint_any w.heap.size gd gj (jd F) (jo d (i + 1) 0 []) v S w6 hj s 1 (jd_good (by omega)) (by omega) (by omega)
          rw [hck2] at hI
          simp only at hI
          refine sc _ Tryz.func21 rfl (by kernel_rfl) rfl rfl ((hI).mono ?_)
          rintro e_ w10 ⟨rfl, hP1⟩
          refine cR ?_
          obtain ⟨v, S, hj', _, _, hX⟩ := hP1
          have hbw' := hj.below hbw hX
          have hz_w10 := hX.size
          clear hj hX hI hbw
          have hj := hj'
          have hbw := hbw'
          clear hj' hbw'
          refine sa rfl rfl ?_
          refine Wn ?_
          refine tN ?_
          refine W_rs ?_
          refine sm rfl rfl ?_
          have hSz := Size_any gd (jd G) S jName w10 hj.jf.own.at_
          rw [show sizeM (jd G) jName = ((G.length : Int), 0) from rfl] at hSz
          simp only at hSz
          refine sc _ Tryz.func22 rfl (by kernel_rfl) rfl rfl ((hSz).mono ?_)
          rintro e_ w11 ⟨rfl, hb⟩
          refine cR ?_
          replace hbw := bthen hbw hb
          replace hj := hj.bel hb
          have hz_w11 := hb.size
          clear hb
          refine sm rfl rfl ?_
          refine st (X.ext rfl rfl) rfl ?_
          refine st (X.ext rfl rfl) rfl ?_
          refine sa rfl rfl ?_
          refine sa rfl rfl ?_
          refine Wn ?_
          refine tN ?_
          refine W_rs ?_
          refine sm rfl rfl ?_
          refine sm rfl rfl ?_
          have hcr := Crash_any gd (jd G) S _ ps w11 hj.jf.own.at_ hgG.ok (hgG.bud (by omega)) (by have := hgG.few; omega) (hP_0.bel hbw) (fun h0 k hk hs => by have := hP_0.ownLt h0 hk; have := (hj.jf.own.lo k hs).1; omega)
          rw [crash_jd] at hcr
          refine sc _ Tryz.func23 rfl (by kernel_rfl) rfl rfl ((hcr).mono ?_)
          rintro e_ w12 ⟨rfl, h1, hX⟩
          refine cR ?_
          obtain ⟨S, hj', _, _⟩ := jcrash hj hbw.size h1 hX (Row.nil _ 9 1) (fun k hk => by simp [Value.ownBlock] at hk)
          have hbw' := bchg hbw hX (fun k hk => (hj.jf.own.lo k hk).1)
          have hz_w12 := hX.size
          clear hj hX hcr hbw h1
          have hj := hj'
          have hbw := hbw'
          clear hj' hbw'
          refine Wn ?_
          refine tN ?_
          refine W_rs ?_
          refine sm rfl rfl ?_
          have hO := Open_any w.heap.size gd (jd G) S 1 w12 hj.jf.own hbw.size hgG (by omega)
          rw [open_jd hfc2] at hO
          refine sc _ Tryz.func18 rfl (by kernel_rfl) rfl rfl ((hO).mono ?_)
          rintro e_ w13 ⟨S3, hd3, hS3, hX, gk, vk, rfl, hk, hgk, hvk⟩
          refine cR ?_
          have hj' := hj.open_ hd3 hS3 hX
          have hbw' := bchg hbw hX (fun k hk => (hj.jf.own.lo k hk).1)
          have hz_w13 := hX.size
          clear hj hX hO hbw
          have hj := hj'
          have hbw := hbw'
          clear hj' hbw'
          refine sm rfl rfl ?_
          refine st (X.ext rfl rfl) rfl ?_
          refine st (X.ext rfl rfl) rfl ?_
          refine sa rfl rfl ?_
          refine sa rfl rfl ?_
          refine Wn ?_
          refine tN ?_
          refine W_seq ?_
          refine W_rs ?_
          refine sm rfl rfl ?_
          refine st (X.neq rfl rfl) rfl ?_
          refine sbN rfl (rfl) rfl ?_
          refine gY (g := 91) rfl rfl rfl ?_
          refine sm rfl rfl ?_
          refine gY (g := 91) rfl rfl rfl ?_
          refine st (X.neq rfl rfl) rfl ?_
          refine st (X.pickF rfl rfl) rfl ?_
          refine sbN rfl (rfl) rfl ?_
          refine gY (g := 95) rfl rfl rfl ?_
          refine sm rfl rfl ?_
          refine gY (g := 95) rfl rfl rfl ?_
          refine st (X.neq rfl rfl) rfl ?_
          refine st (X.pickF rfl rfl) rfl ?_
          refine sbN rfl (rfl) rfl ?_
          refine gY (g := 99) rfl rfl rfl ?_
          refine sm rfl rfl ?_
          refine gY (g := 99) rfl rfl rfl ?_
          refine st (X.jEq rfl) rfl ?_
          refine st (X.pickF rfl rfl) rfl ?_
          refine Wn ?_
          refine tN ?_
          refine W_no rfl (rfl) ?_
          refine W_skip ?_
          refine tN ?_
          refine W_rs ?_
          refine sm rfl rfl ?_
          refine sm rfl rfl ?_
          have h4_ : ([49, 50, 51, 52] : List UInt8).length = 4 := rfl
          refine st (X.cat rfl rfl (by omega)) rfl ?_
          refine sc _ Tryz.func24 rfl (by kernel_rfl) rfl rfl ((Seal_any 6 ([49, 50, 51, 52] ++ s) _ (by rw [List.length_append]; simp; omega)).mono ?_)
          rintro e_ w14 ⟨rfl, hb⟩
          refine cR ?_
          replace hbw := bthen hbw hb
          replace hj := hj.bel hb
          replace hk := hk.bel hb
          have hz_w14 := hb.size
          clear hb
          refine st (X.lenS rfl rfl Tryz.underlying9) rfl ?_
          refine st (X.eql rfl rfl) rfl ?_
          have hsl2 : (sealM 6 ([49, 50, 51, 52] ++ s)).length = G.length := by rw [seal_length (by decide) (by rw [List.length_append]; simp; omega), hGl, List.length_append]; rfl
          refine sbY rfl (decide_eq_true (by rw [hsl2])) rfl ?_
          refine gY (g := 109) rfl rfl rfl ?_
          refine sm rfl rfl ?_
          refine gY (g := 109) rfl rfl rfl ?_
          refine sc _ Tryz.func25 rfl (by kernel_rfl) rfl rfl ((State_any w.heap.size gd gk _ _ vk S3 _ hk).mono ?_)
          rintro e_ w_ ⟨rfl, rfl⟩
          refine cR ?_
          refine gY (g := 109) rfl rfl rfl ?_
          refine sm rfl rfl ?_
          refine gY (g := 109) rfl rfl rfl ?_
          refine st (X.eqS rfl rfl) rfl ?_
          refine st (X.pickT rfl rfl) rfl ?_
          refine sbY rfl (decide_eq_true rfl) rfl ?_
          refine gY (g := 115) rfl rfl rfl ?_
          refine sm rfl rfl ?_
          refine gY (g := 115) rfl rfl rfl ?_
          refine sc _ Tryz.func26 rfl (by kernel_rfl) rfl rfl ((Done_any w.heap.size gd gk _ _ vk S3 _ hk (by show ([] : List (List UInt8)).length ≤ _; simp)).mono ?_)
          rintro e_ w15 ⟨va, rfl, hRa, hOa, hb⟩
          refine cR ?_
          replace hbw := bthen hbw hb
          replace hj := hj.bel hb
          replace hk := hk.bel hb
          have hz_w15 := hb.size
          clear hb
          obtain ⟨qa, ca, rfl, _, _⟩ := hRa.shape
          refine gY (g := 115) rfl rfl rfl ?_
          refine st (X.lenL rfl rfl Tryz.underlying42) rfl ?_
          refine gY (g := 115) rfl rfl rfl ?_
          refine st (X.eql rfl rfl) rfl ?_
          refine st (X.pickT rfl rfl) rfl ?_
          refine sbY rfl (decide_eq_true rfl) rfl ?_
          refine gY (g := 121) rfl rfl rfl ?_
          refine sm rfl rfl ?_
          refine gY (g := 121) rfl rfl rfl ?_
          refine sc _ Tryz.func27 rfl (by kernel_rfl) rfl rfl ((Next_j w.heap.size gd gk _ _ vk S3 _ hk).mono ?_)
          rintro e_ w_ ⟨rfl, rfl⟩
          refine cR ?_
          refine gY (g := 121) rfl rfl rfl ?_
          refine sm rfl rfl ?_
          refine gY (g := 121) rfl rfl rfl ?_
          refine st (X.lenL rfl rfl Tryz.underlying42) rfl ?_
          refine gY (g := 121) rfl rfl rfl ?_
          refine st (X.add64 rfl rfl (by omega)) rfl ?_
          refine gY (g := 121) rfl rfl rfl ?_
          refine st (X.eql rfl rfl) rfl ?_
          refine st (X.pickT rfl rfl) rfl ?_
          refine sbY rfl (decide_eq_true (by show ((i + 1 : Nat) : Int) = _; omega)) rfl ?_
          refine gY (g := 129) rfl rfl rfl ?_
          refine sm rfl rfl ?_
          refine gY (g := 129) rfl rfl rfl ?_
          refine sc _ Tryz.func25 rfl (by kernel_rfl) rfl rfl ((State_any w.heap.size gd gj _ _ v S3 _ hj).mono ?_)
          rintro e_ w_ ⟨rfl, rfl⟩
          refine cR ?_
          refine gY (g := 129) rfl rfl rfl ?_
          refine sm rfl rfl ?_
          refine gY (g := 129) rfl rfl rfl ?_
          refine st (X.eqS rfl rfl) rfl ?_
          refine st (X.pickT rfl rfl) rfl ?_
          refine sbY rfl (decide_eq_true rfl) rfl ?_
          refine gY (g := 135) rfl rfl rfl ?_
          refine sm rfl rfl ?_
          refine gY (g := 135) rfl rfl rfl ?_
          refine sc _ Tryz.func26 rfl (by kernel_rfl) rfl rfl ((Done_any w.heap.size gd gj _ _ v S3 _ hj (by show ([] : List (List UInt8)).length ≤ _; simp)).mono ?_)
          rintro e_ w16 ⟨vb, rfl, hRb, hOb, hb⟩
          refine cR ?_
          replace hbw := bthen hbw hb
          replace hj := hj.bel hb
          replace hk := hk.bel hb
          have hz_w16 := hb.size
          clear hb
          obtain ⟨qb, cb, rfl, _, _⟩ := hRb.shape
          refine gY (g := 135) rfl rfl rfl ?_
          refine st (X.lenL rfl rfl Tryz.underlying42) rfl ?_
          refine gY (g := 135) rfl rfl rfl ?_
          refine st (X.eql rfl rfl) rfl ?_
          refine st (X.pickT rfl rfl) rfl ?_
          refine sbY rfl (decide_eq_true rfl) rfl ?_
          refine gY (g := 141) rfl rfl rfl ?_
          refine sm rfl rfl ?_
          refine gY (g := 141) rfl rfl rfl ?_
          refine sc _ Tryz.func28 rfl (by kernel_rfl) rfl rfl ((List_any gd (jd G) S3 _ hj.jf.own.at_ (List.pairwise_singleton _ _) (by show [_].length ≤ _; simp)).mono ?_)
          rintro e_ w17 ⟨vc, rfl, hRc, hOc, hb⟩
          refine cR ?_
          replace hbw := bthen hbw hb
          replace hj := hj.bel hb
          replace hk := hk.bel hb
          have hz_w17 := hb.size
          clear hb
          obtain ⟨qc, cc, rfl, _, _⟩ := hRc.shape
          refine gY (g := 141) rfl rfl rfl ?_
          refine st (X.lenL rfl rfl Tryz.underlying42) rfl ?_
          refine gY (g := 141) rfl rfl rfl ?_
          refine st (X.eql rfl rfl) rfl ?_
          refine st (X.pickT rfl rfl) rfl ?_
          refine sbY rfl (decide_eq_true rfl) rfl ?_
          refine gY (g := 147) rfl rfl rfl ?_
          refine sc _ Tryz.func17 rfl (by kernel_rfl) rfl rfl ((awake16_any _).mono ?_)
          rintro e_ w18 ⟨rfl, hb⟩
          refine cR ?_
          replace hbw := bthen hbw hb
          replace hj := hj.bel hb
          replace hk := hk.bel hb
          have hz_w18 := hb.size
          clear hb
          refine st (X.pickT rfl rfl) rfl ?_
          refine sa rfl rfl ?_
          refine Wn ?_
          refine tN ?_
          refine W_ret ?_
          exact (rT rfl rfl ⟨rfl, hbw⟩).1
end Go.Proofs.YtnijmegalgoipaaGreatDoor
