/- law16: awake; JournalScans, JournalNil. -/
import Derived.Test.YtnijmegalgoipaaDoorJrn
namespace Go.Proofs.YtnijmegalgoipaaDoor
open Go.RowKit
def aj1 : DiskD := (createM (newM 5000) jName).2
def ajJ : JrM := ⟨⟨[], [], 1, 0, 0, []⟩, false⟩
theorem aj_open : openJ (newM 5000) = ((some ajJ, 0), aj1) := by kernel_rfl
theorem aj_int : (intentJ aj1 ajJ [97]).1 = (1, 0) ∧ (intentJ aj1 ajJ [97]).2.2 = ⟨⟨[], [], 2, 0, 1, [97]⟩, false⟩ := by constructor <;> kernel_rfl
def aj2 : DiskD := (intentJ aj1 ajJ [97]).2.1
def ajK : JrM := ⟨⟨[], [], 2, 0, 1, [97]⟩, false⟩
theorem aj_com : (commitJ aj2 ajK 1).1 = 0 ∧ (commitJ aj2 ajK 1).2.2 = ⟨⟨[], [[97]], 2, 0, 0, []⟩, false⟩ := by constructor <;> kernel_rfl
def aj3 : DiskD := (commitJ aj2 ajK 1).2.1
def ajL : JrM := ⟨⟨[], [[97]], 2, 0, 0, []⟩, false⟩
theorem aj1_good : Good 1 aj1 := create_good (Good.new (by omega)) _
theorem aj2_good : Good 16 aj2 := (intentJ_good aj1_good ajJ [97]).mono (by decide)
theorem JAll.below {w0 w w' : World} {gd gj : Nat} {D : DiskD} {J : JrM} {v : Value} {S : Nat → Prop} (h : JAll w0.heap.size w gd gj D J v S) (hb : Below w0.heap.size w0 w) (hC : Chg (fun k => S k ∨ k = gj ∨ v.ownBlock = some k) w w') : Below w0.heap.size w0 w' :=
  bchg hb hC (fun k hk => by
    rcases hk with hk | rfl | hk
    · exact (h.jf.own.lo k hk).1
    · exact h.jf.gB
    · exact (h.jf.v k hk).2)
set_option maxRecDepth 10000 in
theorem awake16_any (w : World) : Calls Tryd.prog 11 #[] w fun e w' => e = .returned (.bool true) ∧ Below w.heap.size w w' := by
  refine W_enter (args := []) 64 Tryd.func11 rfl rfl rfl ?_
  have hbw := Below.refl w.heap.size w
  refine W_rs ?_
  refine sa rfl rfl ?_
  refine Wn ?_
  refine tN ?_
  refine W_rs ?_
  refine sc _ Tryd.func23 rfl (by kernel_rfl) rfl rfl ((New_ok 5000 _ (by omega)).mono ?_)
  rintro e_ w1 ⟨gd, S0, rfl, h0, hS0, hb⟩
  refine cR ?_
  replace hbw := bthen hbw hb
  have hz_w1 := hb.size
  clear hb
  have hd : Own w.heap.size w1 gd (newM 5000) S0 := ⟨h0, fun k hk => by have := hS0 k hk; have := hbw.size; omega⟩
  clear h0 hS0
  refine sm rfl rfl ?_
  refine st (X.ext rfl rfl) rfl ?_
  refine st (X.ext rfl rfl) rfl ?_
  refine sa rfl rfl ?_
  refine sa rfl rfl ?_
  refine Wn ?_
  refine tN ?_
  refine W_rs ?_
  refine sm rfl rfl ?_
  have hO := Open_any w.heap.size gd (newM 5000) S0 0 w1 hd hbw.size (Good.new (by omega)) (by omega)
  rw [aj_open] at hO
  refine sc _ Tryd.func15 rfl (by kernel_rfl) rfl rfl ((hO).mono ?_)
  rintro e_ w2 ⟨S1, hd1, hS1, hX, gj, v1, rfl, hj, hgj, hv1⟩
  refine cR ?_
  replace hbw := bchg hbw hX (fun k hk => (hd.lo k hk).1)
  clear hd hd1 hX hO
  refine sm rfl rfl ?_
  refine st (X.ext rfl rfl) rfl ?_
  refine st (X.ext rfl rfl) rfl ?_
  refine sa rfl rfl ?_
  refine sa rfl rfl ?_
  refine Wn ?_
  refine tN ?_
  refine W_seq ?_
  refine W_rs ?_
  refine sm rfl rfl ?_
  refine st (X.neq rfl rfl) rfl ?_
  refine sbN rfl (rfl) rfl ?_
  refine gY (g := 20) rfl rfl rfl ?_
  refine sm rfl rfl ?_
  refine gY (g := 20) rfl rfl rfl ?_
  refine st (X.neq rfl rfl) rfl ?_
  refine st (X.pickF rfl rfl) rfl ?_
  refine sbN rfl (rfl) rfl ?_
  refine gY (g := 24) rfl rfl rfl ?_
  refine sm rfl rfl ?_
  refine gY (g := 24) rfl rfl rfl ?_
  refine st (X.jEq rfl) rfl ?_
  refine st (X.pickF rfl rfl) rfl ?_
  refine Wn ?_
  refine tN ?_
  refine W_no rfl (rfl) ?_
  refine W_skip ?_
  refine tN ?_
  refine W_rs ?_
  refine sm rfl rfl ?_
  have hI := Intent_any w.heap.size gd gj aj1 ajJ v1 S1 w2 hj [97] 1 aj1_good (by omega) (by decide) (by decide)
  rw [aj_int.1, aj_int.2] at hI
  simp only at hI
  refine sc _ Tryd.func16 rfl (by kernel_rfl) rfl rfl ((hI).mono ?_)
  rintro e_ w3 ⟨rfl, v2, S2, hj2, hS2, hv2, hX⟩
  refine cR ?_
  replace hbw := hj.below hbw hX
  clear hj hX hI
  have hj : JAll w.heap.size w3 gd gj aj2 ajK v2 S2 := hj2
  clear hj2
  refine sm rfl rfl ?_
  refine st (X.ext rfl rfl) rfl ?_
  refine st (X.ext rfl rfl) rfl ?_
  refine sa rfl rfl ?_
  refine sa rfl rfl ?_
  refine Wn ?_
  refine tN ?_
  refine W_rs ?_
  refine sm rfl rfl ?_
  refine sm rfl rfl ?_
  have hI := Commit_any w.heap.size gd gj aj2 ajK v2 S2 w3 hj 1 16 aj2_good (by omega) (by decide)
  rw [aj_com.1, aj_com.2] at hI
  refine sc _ Tryd.func17 rfl (by kernel_rfl) rfl rfl ((hI).mono ?_)
  rintro e_ w4 ⟨rfl, v3, S3, hj3, hS3, hv3, hX⟩
  refine cR ?_
  replace hbw := hj.below hbw hX
  clear hj hX hI
  have hj : JAll w.heap.size w4 gd gj aj3 ajL v3 S3 := hj3
  clear hj3
  refine sa rfl rfl ?_
  refine Wn ?_
  refine tN ?_
  refine W_rs ?_
  refine sm rfl rfl ?_
  refine sc _ Tryd.func21 rfl (by kernel_rfl) rfl rfl ((Done_any w.heap.size gd gj aj3 ajL v3 S3 _ hj (by decide)).mono ?_)
  rintro e_ w5 ⟨v4, rfl, hR, hO4, hb⟩
  refine cR ?_
  replace hbw := bthen hbw hb
  replace hj := hj.bel hb
  have hz_w5 := hb.size
  clear hb
  obtain ⟨g4, o4, c4, hv4_, _⟩ := hR.reads.some_ (show 0 < ajL.x.done.length by decide)
  subst hv4_
  refine sa rfl rfl ?_
  refine Wn ?_
  refine tN ?_
  refine W_rs ?_
  refine sm rfl rfl ?_
  refine st (X.eql rfl rfl) rfl ?_
  refine sbY rfl (rfl) rfl ?_
  refine gY (g := 40) rfl rfl rfl ?_
  refine sm rfl rfl ?_
  refine gY (g := 40) rfl rfl rfl ?_
  refine st (X.eql rfl rfl) rfl ?_
  refine st (X.pickT rfl rfl) rfl ?_
  refine sbY rfl (rfl) rfl ?_
  refine gY (g := 44) rfl rfl rfl ?_
  refine sm rfl rfl ?_
  refine gY (g := 44) rfl rfl rfl ?_
  refine st (X.eql rfl rfl) rfl ?_
  refine st (X.pickT rfl rfl) rfl ?_
  refine sbY rfl (rfl) rfl ?_
  refine gY (g := 48) rfl rfl rfl ?_
  refine sm rfl rfl ?_
  refine gY (g := 48) rfl rfl rfl ?_
  refine st (X.lenL rfl rfl Tryd.underlying23) rfl ?_
  refine gY (g := 48) rfl rfl rfl ?_
  refine st (X.eql rfl rfl) rfl ?_
  refine st (X.pickT rfl rfl) rfl ?_
  refine sbY rfl (rfl) rfl ?_
  refine gY (g := 53) rfl rfl rfl ?_
  refine sm rfl rfl ?_
  refine gY (g := 53) rfl rfl rfl ?_
  refine st (X.idxA (j := 0) rfl rfl Tryd.underlying23 siz9 rfl (by decide)) rfl ?_
  refine gY (g := 53) rfl rfl rfl ?_
  refine st (X.ld rfl Tryd.underlying9 rfl (by rw [Nat.zero_mul]; exact hR.reads.cellAt (by decide) (j := 0) rfl)) rfl ?_
  refine gY (g := 53) rfl rfl rfl ?_
  refine st (X.eqS rfl rfl) rfl ?_
  refine st (X.pickT rfl rfl) rfl ?_
  refine sbY rfl (rfl) rfl ?_
  refine gY (g := 59) rfl rfl rfl ?_
  refine sm rfl rfl ?_
  refine gY (g := 59) rfl rfl rfl ?_
  refine sc _ Tryd.func22 rfl (by kernel_rfl) rfl rfl ((Next_j w.heap.size gd gj aj3 ajL v3 S3 _ hj).mono ?_)
  rintro e_ w_ ⟨rfl, rfl⟩
  refine cR ?_
  refine gY (g := 59) rfl rfl rfl ?_
  refine st (X.eql rfl rfl) rfl ?_
  refine st (X.pickT rfl rfl) rfl ?_
  refine sa rfl rfl ?_
  refine Wn ?_
  refine tN ?_
  refine W_ret ?_
  exact (rT rfl rfl ⟨rfl, hbw⟩).1
theorem JournalScans_walk (w : World) (s : List UInt8) (hs : s.length ≤ 9223372036854775807) :
    Calls Tryd.prog 3 #[str s] w fun e w' => e = .returned (.bool true) ∧ Below w.heap.size w w' := by
  refine W_enter (args := [str s]) 42 Tryd.func3 rfl rfl rfl ?_
  refine W_sub [(0, str s)] ?_ ⟨rfl, trivial⟩
  have hbw := Below.refl w.heap.size w
  refine W_rs ?_
  refine sa rfl rfl ?_
  refine Wn ?_
  refine tN ?_
  refine W_seq ?_
  refine W_rs ?_
  refine sm rfl rfl ?_
  refine st (X.lenS rfl rfl Tryd.underlying9) rfl ?_
  refine st (X.gtr rfl rfl) rfl ?_
  refine Wn ?_
  refine tN ?_
  refine W_if rfl (fun h7 => ?_) (fun h7 => ?_)
  · first | replace h7 := of_decide_eq_true h7 | replace h7 := of_decide_eq_false (notT h7) | replace h7 := notT h7 | skip
    refine W_rs ?_
    refine sc _ Tryd.func11 rfl (by kernel_rfl) rfl rfl ((awake16_any _).mono ?_)
    rintro e_ w1 ⟨rfl, hb⟩
    refine cR ?_
    replace hbw := bthen hbw hb
    have hz_w1 := hb.size
    clear hb
    refine sa rfl rfl ?_
    refine Wn ?_
    refine tN ?_
    refine W_ret (tR ?_)
    exact (rT rfl rfl ⟨rfl, hbw⟩).1
  · first | replace h7 := of_decide_eq_false h7 | replace h7 := of_decide_eq_true (notF h7) | replace h7 := notF h7 | skip
    refine W_skip ?_
    refine tN ?_
    refine W_rs ?_
    refine sm rfl rfl ?_
    refine sc _ Tryd.func12 rfl (by kernel_rfl) rfl rfl ((Scan_any s _ (by omega)).mono ?_)
    rintro e_ w2 ⟨⟨v, rfl, hRv, hvo⟩, hb⟩
    refine cR ?_
    replace hbw := bthen hbw hb
    have hz_w2 := hb.size
    clear hb
    refine salA inf25 rfl (fun g3 w3 hB3 hg3 hb hl3 => ?_)
    replace hbw := bthen hbw hb
    replace hRv := hRv.bel hb
    have hz_w3 := hb.size
    clear hb
    have hne3 := hRv.ne2 hB3 (by decide)
    refine ssBN rfl rfl hB3 siz25 rfl (seen_one hRv.one1) (fun w4 hB_ hc_ => ?_)
    replace hB3 := hB_
    clear hB_
    replace hRv := hRv.chg hc_ (by first | (show ¬ _ = _; omega) | (intro k_ hk_; simp [Value.ownBlock] at hk_; subst hk_; show ¬ _ = _; omega) | assumption | trivial)
    replace hbw := bset hbw hc_ (by omega)
    have hz_w4 := hc_.size
    clear hc_
    refine Wn ?_
    refine tN ?_
    refine W_rs ?_
    refine sm rfl rfl ?_
    refine sc _ Tryd.func13 rfl (by kernel_rfl) rfl rfl ((Scan_ref s _ (by omega)).mono ?_)
    rintro e_ w5 ⟨⟨u, rfl, hRu, huo⟩, hb⟩
    refine cR ?_
    replace hbw := bthen hbw hb
    replace hRv := hRv.bel hb
    replace hB3 := hB3.bel hb
    have hz_w5 := hb.size
    clear hb
    refine salA inf27 rfl (fun g4 w6 hB4 hg4 hb hl4 => ?_)
    replace hbw := bthen hbw hb
    replace hRv := hRv.bel hb
    replace hB3 := hB3.bel hb
    replace hRu := hRu.bel hb
    have hz_w6 := hb.size
    clear hb
    have hne4 := hRv.ne2 hB4 (by decide)
    have hne5 := hRu.ne2 hB4 (by decide)
    refine ssBN rfl rfl hB4 siz27 rfl (seen_one hRu.one1) (fun w7 hB_ hc_ => ?_)
    replace hB4 := hB_
    clear hB_
    replace hRv := hRv.chg hc_ (by first | (show ¬ _ = _; omega) | (intro k_ hk_; simp [Value.ownBlock] at hk_; subst hk_; show ¬ _ = _; omega) | assumption | trivial)
    replace hB3 := hB3.chg hc_ (by first | (show ¬ _ = _; omega) | (intro k_ hk_; simp [Value.ownBlock] at hk_; subst hk_; show ¬ _ = _; omega) | assumption | trivial)
    replace hRu := hRu.chg hc_ (by first | (show ¬ _ = _; omega) | (intro k_ hk_; simp [Value.ownBlock] at hk_; subst hk_; show ¬ _ = _; omega) | assumption | trivial)
    replace hbw := bset hbw hc_ (by omega)
    have hz_w7 := hc_.size
    clear hc_
    refine Wn ?_
    refine tN ?_
    refine W_rs ?_
    refine st (X.fa fa25_0 rfl) rfl ?_
    refine st (X.ldL rfl hB3 Tryd.underlying9 rfl rfl) rfl ?_
    refine st (X.fa fa27_0 rfl) rfl ?_
    refine st (X.ldL rfl hB4 Tryd.underlying9 rfl rfl) rfl ?_
    refine st (X.eqS rfl rfl) rfl ?_
    refine sbY rfl (decide_eq_true rfl) rfl ?_
    refine gY (g := 18) rfl rfl rfl ?_
    refine st (X.fa fa25_2 rfl) rfl ?_
    refine gY (g := 18) rfl rfl rfl ?_
    refine st (X.ldL rfl hB3 Tryd.underlying3 rfl rfl) rfl ?_
    refine gY (g := 18) rfl rfl rfl ?_
    refine st (X.fa fa27_2 rfl) rfl ?_
    refine gY (g := 18) rfl rfl rfl ?_
    refine st (X.ldL rfl hB4 Tryd.underlying3 rfl rfl) rfl ?_
    refine gY (g := 18) rfl rfl rfl ?_
    refine st (X.eql rfl rfl) rfl ?_
    refine st (X.pickT rfl rfl) rfl ?_
    refine sbY rfl (decide_eq_true rfl) rfl ?_
    refine gY (g := 25) rfl rfl rfl ?_
    refine st (X.fa fa25_3 rfl) rfl ?_
    refine gY (g := 25) rfl rfl rfl ?_
    refine st (X.ldL rfl hB3 Tryd.underlying3 rfl rfl) rfl ?_
    refine gY (g := 25) rfl rfl rfl ?_
    refine st (X.fa fa27_3 rfl) rfl ?_
    refine gY (g := 25) rfl rfl rfl ?_
    refine st (X.ldL rfl hB4 Tryd.underlying3 rfl rfl) rfl ?_
    refine gY (g := 25) rfl rfl rfl ?_
    refine st (X.eql rfl rfl) rfl ?_
    refine st (X.pickT rfl rfl) rfl ?_
    refine sbY rfl (decide_eq_true rfl) rfl ?_
    refine gY (g := 32) rfl rfl rfl ?_
    refine st (X.fa fa25_1 rfl) rfl ?_
    refine gY (g := 32) rfl rfl rfl ?_
    refine st (X.ldL rfl hB3 Tryd.underlying23 rfl rfl) rfl ?_
    refine gY (g := 32) rfl rfl rfl ?_
    refine st (X.fa fa27_1 rfl) rfl ?_
    refine gY (g := 32) rfl rfl rfl ?_
    refine st (X.ldL rfl hB4 Tryd.underlying23 rfl rfl) rfl ?_
    refine gY (g := 32) rfl rfl rfl ?_
    refine sc _ Tryd.func14 rfl (by kernel_rfl) rfl rfl ((Same16_any v u (scanM s).done (scanM s).done _ hRv.reads hRu.reads).mono ?_)
    rintro e_ w8 ⟨rfl, hb⟩
    refine cR ?_
    replace hbw := bthen hbw hb
    replace hRv := hRv.bel hb
    replace hB3 := hB3.bel hb
    replace hRu := hRu.bel hb
    replace hB4 := hB4.bel hb
    have hz_w8 := hb.size
    clear hb
    refine st (X.pickT rfl rfl) rfl ?_
    refine sbY rfl (decide_eq_true rfl) rfl ?_
    refine gY (g := 39) rfl rfl rfl ?_
    refine sc _ Tryd.func11 rfl (by kernel_rfl) rfl rfl ((awake16_any _).mono ?_)
    rintro e_ w9 ⟨rfl, hb⟩
    refine cR ?_
    replace hbw := bthen hbw hb
    replace hRv := hRv.bel hb
    replace hB3 := hB3.bel hb
    replace hRu := hRu.bel hb
    replace hB4 := hB4.bel hb
    have hz_w9 := hb.size
    clear hb
    refine st (X.pickT rfl rfl) rfl ?_
    refine sa rfl rfl ?_
    refine Wn ?_
    refine tN ?_
    refine W_ret ?_
    exact (rT rfl rfl ⟨rfl, hbw⟩).1
theorem JournalNil_walk (w : World) (s : List UInt8) (_hs : s.length ≤ 9223372036854775807) (i : Int) :
    Calls Tryd.prog 4 #[str s, .int .i64 i] w fun e w' => e = .returned (.bool true) ∧ Below w.heap.size w w' := by
  refine W_enter (args := [str s, .int .i64 i]) 79 Tryd.func4 rfl rfl rfl ?_
  refine W_sub [(0, str s), (1, .int .i64 i)] ?_ ⟨rfl, rfl, trivial⟩
  have hbw := Below.refl w.heap.size w
  refine W_rs ?_
  refine sa rfl rfl ?_
  refine Wn ?_
  refine tN ?_
  refine W_seq ?_
  refine W_rs ?_
  refine sm rfl rfl ?_
  refine st (X.lenS rfl rfl Tryd.underlying9) rfl ?_
  refine st (X.gtr rfl rfl) rfl ?_
  refine Wn ?_
  refine tN ?_
  refine W_if rfl (fun h12 => ?_) (fun h12 => ?_)
  · first | replace h12 := of_decide_eq_true h12 | replace h12 := of_decide_eq_false (notT h12) | replace h12 := notT h12 | skip
    refine W_rs ?_
    refine sc _ Tryd.func11 rfl (by kernel_rfl) rfl rfl ((awake16_any _).mono ?_)
    rintro e_ w1 ⟨rfl, hb⟩
    refine cR ?_
    replace hbw := bthen hbw hb
    have hz_w1 := hb.size
    clear hb
    refine sa rfl rfl ?_
    refine Wn ?_
    refine tN ?_
    refine W_ret (tR ?_)
    exact (rT rfl rfl ⟨rfl, hbw⟩).1
  · first | replace h12 := of_decide_eq_false h12 | replace h12 := of_decide_eq_true (notF h12) | replace h12 := notF h12 | skip
    refine W_skip ?_
    refine tN ?_
    refine W_rs ?_
    refine sa rfl rfl ?_
    refine Wn ?_
    refine tN ?_
    refine W_rs ?_
    refine sc _ Tryd.func15 rfl (by kernel_rfl) rfl rfl ((Open_nil _).mono ?_)
    rintro e_ w_ ⟨rfl, rfl⟩
    refine cR ?_
    refine sm rfl rfl ?_
    refine st (X.ext rfl rfl) rfl ?_
    refine st (X.ext rfl rfl) rfl ?_
    refine sa rfl rfl ?_
    refine sa rfl rfl ?_
    refine Wn ?_
    refine tN ?_
    refine W_rs ?_
    refine sm rfl rfl ?_
    refine sm rfl rfl ?_
    refine sc _ Tryd.func16 rfl (by kernel_rfl) rfl rfl ((Intent_nil s _).mono ?_)
    rintro e_ w_ ⟨rfl, rfl⟩
    refine cR ?_
    refine sm rfl rfl ?_
    refine st (X.ext rfl rfl) rfl ?_
    refine st (X.ext rfl rfl) rfl ?_
    refine sa rfl rfl ?_
    refine sa rfl rfl ?_
    refine Wn ?_
    refine tN ?_
    refine W_rs ?_
    refine sm rfl rfl ?_
    refine st (X.jEq rfl) rfl ?_
    refine sbY rfl (rfl) rfl ?_
    refine gY (g := 26) rfl rfl rfl ?_
    refine sm rfl rfl ?_
    refine gY (g := 26) rfl rfl rfl ?_
    refine st (X.eql rfl rfl) rfl ?_
    refine st (X.pickT rfl rfl) rfl ?_
    refine sbY rfl (rfl) rfl ?_
    refine gY (g := 30) rfl rfl rfl ?_
    refine sm rfl rfl ?_
    refine gY (g := 30) rfl rfl rfl ?_
    refine st (X.eql rfl rfl) rfl ?_
    refine st (X.pickT rfl rfl) rfl ?_
    refine sbY rfl (rfl) rfl ?_
    refine gY (g := 34) rfl rfl rfl ?_
    refine sm rfl rfl ?_
    refine gY (g := 34) rfl rfl rfl ?_
    refine sm rfl rfl ?_
    refine gY (g := 34) rfl rfl rfl ?_
    refine st (X.eql rfl rfl) rfl ?_
    refine st (X.pickT rfl rfl) rfl ?_
    refine sbY rfl (rfl) rfl ?_
    refine gY (g := 39) rfl rfl rfl ?_
    refine sm rfl rfl ?_
    refine gY (g := 39) rfl rfl rfl ?_
    refine sm rfl rfl ?_
    refine gY (g := 39) rfl rfl rfl ?_
    refine sc _ Tryd.func17 rfl (by kernel_rfl) rfl rfl ((Commit_nil i _).mono ?_)
    rintro e_ w_ ⟨rfl, rfl⟩
    refine cR ?_
    refine gY (g := 39) rfl rfl rfl ?_
    refine sm rfl rfl ?_
    refine gY (g := 39) rfl rfl rfl ?_
    refine st (X.eql rfl rfl) rfl ?_
    refine st (X.pickT rfl rfl) rfl ?_
    refine sbY rfl (rfl) rfl ?_
    refine gY (g := 46) rfl rfl rfl ?_
    refine sm rfl rfl ?_
    refine gY (g := 46) rfl rfl rfl ?_
    refine sm rfl rfl ?_
    refine gY (g := 46) rfl rfl rfl ?_
    refine sc _ Tryd.func18 rfl (by kernel_rfl) rfl rfl ((Abort_nil i _).mono ?_)
    rintro e_ w_ ⟨rfl, rfl⟩
    refine cR ?_
    refine gY (g := 46) rfl rfl rfl ?_
    refine sm rfl rfl ?_
    refine gY (g := 46) rfl rfl rfl ?_
    refine st (X.eql rfl rfl) rfl ?_
    refine st (X.pickT rfl rfl) rfl ?_
    refine sbY rfl (rfl) rfl ?_
    refine gY (g := 53) rfl rfl rfl ?_
    refine sm rfl rfl ?_
    refine gY (g := 53) rfl rfl rfl ?_
    refine sm rfl rfl ?_
    refine gY (g := 53) rfl rfl rfl ?_
    refine sc _ Tryd.func19 rfl (by kernel_rfl) rfl rfl ((Checkpoint_nil s _).mono ?_)
    rintro e_ w_ ⟨rfl, rfl⟩
    refine cR ?_
    refine gY (g := 53) rfl rfl rfl ?_
    refine sm rfl rfl ?_
    refine gY (g := 53) rfl rfl rfl ?_
    refine st (X.eql rfl rfl) rfl ?_
    refine st (X.pickT rfl rfl) rfl ?_
    refine sbY rfl (rfl) rfl ?_
    refine gY (g := 60) rfl rfl rfl ?_
    refine sm rfl rfl ?_
    refine gY (g := 60) rfl rfl rfl ?_
    refine sc _ Tryd.func20 rfl (by kernel_rfl) rfl rfl ((State_nil _).mono ?_)
    rintro e_ w_ ⟨rfl, rfl⟩
    refine cR ?_
    refine gY (g := 60) rfl rfl rfl ?_
    refine st (X.eqS rfl rfl) rfl ?_
    refine st (X.pickT rfl rfl) rfl ?_
    refine sbY rfl (rfl) rfl ?_
    refine gY (g := 65) rfl rfl rfl ?_
    refine sm rfl rfl ?_
    refine gY (g := 65) rfl rfl rfl ?_
    refine sc _ Tryd.func21 rfl (by kernel_rfl) rfl rfl ((Done_nil _).mono ?_)
    rintro e_ w_ ⟨rfl, rfl⟩
    refine cR ?_
    refine gY (g := 65) rfl rfl rfl ?_
    refine st (X.lenL rfl rfl Tryd.underlying23) rfl ?_
    refine gY (g := 65) rfl rfl rfl ?_
    refine st (X.eql rfl rfl) rfl ?_
    refine st (X.pickT rfl rfl) rfl ?_
    refine sbY rfl (rfl) rfl ?_
    refine gY (g := 71) rfl rfl rfl ?_
    refine sm rfl rfl ?_
    refine gY (g := 71) rfl rfl rfl ?_
    refine sc _ Tryd.func22 rfl (by kernel_rfl) rfl rfl ((Next_nil _).mono ?_)
    rintro e_ w_ ⟨rfl, rfl⟩
    refine cR ?_
    refine gY (g := 71) rfl rfl rfl ?_
    refine st (X.eql rfl rfl) rfl ?_
    refine st (X.pickT rfl rfl) rfl ?_
    refine sbY rfl (rfl) rfl ?_
    refine gY (g := 76) rfl rfl rfl ?_
    refine sc _ Tryd.func11 rfl (by kernel_rfl) rfl rfl ((awake16_any _).mono ?_)
    rintro e_ w2 ⟨rfl, hb⟩
    refine cR ?_
    replace hbw := bthen hbw hb
    have hz_w2 := hb.size
    clear hb
    refine st (X.pickT rfl rfl) rfl ?_
    refine sa rfl rfl ?_
    refine Wn ?_
    refine tN ?_
    refine W_ret ?_
    exact (rT rfl rfl ⟨rfl, hbw⟩).1
end Go.Proofs.YtnijmegalgoipaaDoor
