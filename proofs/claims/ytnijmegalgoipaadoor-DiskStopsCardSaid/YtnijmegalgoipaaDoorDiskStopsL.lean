/- The law DiskStops. -/
import Derived.Test.YtnijmegalgoipaaDoorStopsPlain
import Derived.Test.YtnijmegalgoipaaDoorAlikeL
namespace Go.Proofs.YtnijmegalgoipaaDoor
open Go.RowKit
theorem Good.sl {m : Nat} {D : DiskD} (h : Good m D) (s : Bool) {t : Int} (ht : 0 ≤ t ∧ t ≤ 9223372036854775807) : Good m (D.sl s t) :=
  ⟨⟨h.ok.srt, h.ok.lim, h.ok.used, h.ok.room, h.ok.ref, fun _ => ht, h.ok.fok⟩, h.pend, h.ref, h.few⟩
theorem create_same {D : DiskD} {n : Key} {t : Int} (hs : D.stops = false) : (createM (D.sl false t) n).1 = (createM D n).1 := by
  have hb := blind_create n D false t
  unfold createM opM tickM
  rw [if_neg (by show ¬ (false = true ∧ t = 0); simp), if_neg (by show ¬ (false = true); simp), if_neg (by rw [hs]; simp), if_neg (by rw [hs]; simp)]
  have h2 := congrArg Prod.fst hb
  exact h2
theorem bsl31 (w : World) : (Instr.buildSlice 56 2 #[(0, .int .i64 3), (1, .int .i64 1)]).run Tryd.prog w = .ok (.slice (some ⟨w.heap.size, 0, none⟩) 2 2) (w.alloc (.cells #[.int .i64 3, .int .i64 1] 3)) := by kernel_rfl
theorem ask_next {l : List OpM} {i : Nat} {q : OpM} (hq : l[i]? = some q) (h : ∀ j q, j < i → l[j]? = some q → 0 ≤ q.ask ∧ q.ask ≤ 5) (h1 : 0 ≤ q.ask ∧ q.ask ≤ 5) : ∀ j q, j < i + 1 → l[j]? = some q → 0 ≤ q.ask ∧ q.ask ≤ 5 := fun j q' hj hq' => by
  rcases Nat.lt_or_ge j i with h2 | h2
  · exact h j q' h2 hq'
  · obtain rfl : j = i := by omega
    rw [hq] at hq'
    injection hq' with hq'
    subst hq'
    exact h1
theorem Own.conv {B g : Nat} {w : World} {D D' : DiskD} {S : Nat → Prop} (h : Own B w g D S) (e : D = D') : Own B w g D' S := e ▸ h
set_option maxRecDepth 10000 in
theorem DiskStops_walk (w : World) (v : Value) (l : List OpM) (h : OpsAt w v l) (n : Int) (hn : -9223372036854775808 ≤ n ∧ n ≤ 9223372036854775807) :
    Calls Tryd.prog 8 #[v, .int .i64 n] w fun e w' => e = .returned (.bool true) ∧ Below w.heap.size w w' := by
  obtain ⟨a, cp, rfl, hc1, hc2⟩ := h.1.shape
  have hnn := h.1.nle
  have u0 : Good 0 (newM 2000) := Good.new (by omega)
  refine W_enter (args := [.slice a l.length cp, .int .i64 n]) 142 Tryd.func8 rfl rfl rfl ?_
  refine W_sub [(0, .slice a l.length cp), (1, .int .i64 n)] ?_ ⟨rfl, rfl, trivial⟩
  have hbw := Below.refl w.heap.size w
  refine W_rs ?_
  refine sa rfl rfl ?_
  refine Wn ?_
  refine tN ?_
  refine W_rs ?_
  refine sc _ Tryd.func23 rfl (by kernel_rfl) rfl rfl ((New_ok 2000 _ (by omega)).mono ?_)
  rintro e_ w1 ⟨g, S0, rfl, h0, hS0, hb⟩
  refine cR ?_
  replace hbw := bthen hbw hb
  have hz_w1 := hb.size
  clear hb
  have hd : Own w.heap.size w1 g (newM 2000) S0 := ⟨h0, fun k hk => by have := hS0 k hk; have := hbw.size; omega⟩
  have hlo := hd.lo
  clear h0 hS0
  refine sm rfl rfl ?_
  refine st (X.ext rfl rfl) rfl ?_
  refine st (X.ext rfl rfl) rfl ?_
  refine sa rfl rfl ?_
  refine sa rfl rfl ?_
  refine Wn ?_
  refine tN ?_
  refine W_rs ?_
  refine sc _ Tryd.func23 rfl (by kernel_rfl) rfl rfl ((New_ok 2000 _ (by omega)).mono ?_)
  rintro e_ w2 ⟨c, T0, rfl, h0, hT0, hb⟩
  refine cR ?_
  replace hbw := bthen hbw hb
  replace hd := hd.bel hb
  have hz_w2 := hb.size
  clear hb
  have hc : Own w.heap.size w2 c (newM 2000) T0 := ⟨h0, fun k hk => by have := hT0 k hk; omega⟩
  have hdc : ∀ k, S0 k → ¬ T0 k := fun k h1 h2 => by have := hlo k h1; have := hT0 k h2; omega
  clear h0 hT0 hlo
  refine sm rfl rfl ?_
  refine st (X.ext rfl rfl) rfl ?_
  refine st (X.ext rfl rfl) rfl ?_
  refine sa rfl rfl ?_
  refine sa rfl rfl ?_
  refine Wn ?_
  refine tN ?_
  refine W_seq ?_
  refine W_rs ?_
  refine sm rfl rfl ?_
  refine st (X.neq rfl rfl) rfl ?_
  refine sbN rfl (rfl) rfl ?_
  refine gY (g := 27) rfl rfl rfl ?_
  refine sm rfl rfl ?_
  refine gY (g := 27) rfl rfl rfl ?_
  refine st (X.neq rfl rfl) rfl ?_
  refine st (X.pickF rfl rfl) rfl ?_
  refine sbN rfl (rfl) rfl ?_
  refine gY (g := 31) rfl rfl rfl ?_
  refine sm rfl rfl ?_
  refine gY (g := 31) rfl rfl rfl ?_
  refine st (X.dEq rfl) rfl ?_
  refine st (X.pickF rfl rfl) rfl ?_
  refine sbN rfl (rfl) rfl ?_
  refine gY (g := 35) rfl rfl rfl ?_
  refine sm rfl rfl ?_
  refine gY (g := 35) rfl rfl rfl ?_
  refine st (X.dEq rfl) rfl ?_
  refine st (X.pickF rfl rfl) rfl ?_
  refine sbN rfl (rfl) rfl ?_
  refine gY (g := 39) rfl rfl rfl ?_
  refine sm rfl rfl ?_
  refine gY (g := 39) rfl rfl rfl ?_
  refine sc _ Tryd.func36 rfl (by kernel_rfl) rfl rfl ((Few_any _ l _ (h.bel hbw)).mono ?_)
  rintro e_ w3 ⟨rfl, hb⟩
  refine cR ?_
  replace hbw := bthen hbw hb
  replace hd := hd.bel hb
  replace hc := hc.bel hb
  have hz_w3 := hb.size
  clear hb
  refine gY (g := 39) rfl rfl rfl ?_
  refine st (X.not rfl) rfl ?_
  refine st (X.pickF rfl rfl) rfl ?_
  refine sb rfl rfl (fun h44 => ?_) (fun h44 => ?_)
  · first | replace h44 := of_decide_eq_true h44 | replace h44 := of_decide_eq_false (notT h44) | replace h44 := notT h44 | skip
    refine gN (g := 44) rfl rfl rfl rfl ?_
    refine gN (g := 44) rfl rfl rfl rfl ?_
    refine st (X.pickT rfl rfl) rfl ?_
    refine Wn ?_
    refine tN ?_
    refine W_yes rfl (rfl) ?_
    refine W_rs ?_
    refine sm rfl rfl ?_
    refine st (X.eql rfl rfl) rfl ?_
    refine sbY rfl (rfl) rfl ?_
    refine gY (g := 50) rfl rfl rfl ?_
    refine sm rfl rfl ?_
    refine gY (g := 50) rfl rfl rfl ?_
    refine st (X.eql rfl rfl) rfl ?_
    refine st (X.pickT rfl rfl) rfl ?_
    refine sbY rfl (rfl) rfl ?_
    refine gY (g := 54) rfl rfl rfl ?_
    refine sm rfl rfl ?_
    refine gY (g := 54) rfl rfl rfl ?_
    refine st (X.dNe rfl) rfl ?_
    refine st (X.pickT rfl rfl) rfl ?_
    refine sbY rfl (rfl) rfl ?_
    refine gY (g := 58) rfl rfl rfl ?_
    refine sc _ Tryd.func24 rfl (by kernel_rfl) rfl rfl ((awake_any _).mono ?_)
    rintro e_ w4 ⟨rfl, hb⟩
    refine cR ?_
    replace hbw := bthen hbw hb
    replace hd := hd.bel hb
    replace hc := hc.bel hb
    have hz_w4 := hb.size
    clear hb
    refine st (X.pickT rfl rfl) rfl ?_
    refine sa rfl rfl ?_
    refine Wn ?_
    refine tN ?_
    refine W_ret (tR ?_)
    exact (rT rfl rfl ⟨rfl, hbw⟩).1
  · first | replace h44 := of_decide_eq_false h44 | replace h44 := of_decide_eq_true (notF h44) | replace h44 := notF h44 | skip
    refine gY (g := 44) rfl rfl rfl ?_
    refine sm rfl rfl ?_
    refine gY (g := 44) rfl rfl rfl ?_
    refine st (X.lss rfl rfl) rfl ?_
    refine st (X.pickF rfl rfl) rfl ?_
    refine Wn ?_
    refine tN ?_
    refine W_if rfl (fun h47 => ?_) (fun h47 => ?_)
    · first | replace h47 := of_decide_eq_true h47 | replace h47 := of_decide_eq_false (notT h47) | replace h47 := notT h47 | skip
      refine W_rs ?_
      refine sm rfl rfl ?_
      refine st (X.eql rfl rfl) rfl ?_
      refine sbY rfl (rfl) rfl ?_
      refine gY (g := 50) rfl rfl rfl ?_
      refine sm rfl rfl ?_
      refine gY (g := 50) rfl rfl rfl ?_
      refine st (X.eql rfl rfl) rfl ?_
      refine st (X.pickT rfl rfl) rfl ?_
      refine sbY rfl (rfl) rfl ?_
      refine gY (g := 54) rfl rfl rfl ?_
      refine sm rfl rfl ?_
      refine gY (g := 54) rfl rfl rfl ?_
      refine st (X.dNe rfl) rfl ?_
      refine st (X.pickT rfl rfl) rfl ?_
      refine sbY rfl (rfl) rfl ?_
      refine gY (g := 58) rfl rfl rfl ?_
      refine sc _ Tryd.func24 rfl (by kernel_rfl) rfl rfl ((awake_any _).mono ?_)
      rintro e_ w5 ⟨rfl, hb⟩
      refine cR ?_
      replace hbw := bthen hbw hb
      replace hd := hd.bel hb
      replace hc := hc.bel hb
      have hz_w5 := hb.size
      clear hb
      refine st (X.pickT rfl rfl) rfl ?_
      refine sa rfl rfl ?_
      refine Wn ?_
      refine tN ?_
      refine W_ret (tR ?_)
      exact (rT rfl rfl ⟨rfl, hbw⟩).1
    · first | replace h47 := of_decide_eq_false h47 | replace h47 := of_decide_eq_true (notF h47) | replace h47 := notF h47 | skip
      obtain ⟨hf1, hf2⟩ := few_of h44
      refine W_skip ?_
      refine tN ?_
      refine W_seq ?_
      refine W_rs ?_
      refine sa rfl rfl ?_
      refine Wn ?_
      refine tN ?_
      refine W_block ?_
      refine W_lp (fun nw6_ lw6_ w6 => ∃ i : Nat, nw6_ = l.length - i ∧ lw6_ = ([(0, .slice a l.length cp), (1, .int .i64 n), (5, .pointer (some ⟨g, 0, none⟩)), (7, .pointer (some ⟨c, 0, none⟩)), (9, .int .i64 i)] : Env) ∧ (i ≤ l.length) ∧ (Below w.heap.size w w6) ∧ (Own w.heap.size w6 g (newM 2000) S0) ∧ (Own w.heap.size w6 c (newM 2000) T0) ∧ (∀ j q, j < i → l[j]? = some q → 0 ≤ q.ask ∧ q.ask ≤ 5)) _ ⟨_, ⟨0, rfl, rfl, Nat.zero_le _, hbw, hd, hc, (fun j q hj => absurd hj (Nat.not_lt_zero _))⟩, ⟨rfl, rfl, rfl, rfl, rfl, trivial⟩⟩ ?_
      clear hbw hd hc
      rintro nw6_ lw6_ w6 ⟨i, rfl, rfl, hi, hbw, hd, hc, hask⟩
      have hz_w6 := hbw.size
      refine W_seq ?_
      refine W_rs ?_
      refine sm rfl rfl ?_
      refine sm rfl rfl ?_
      refine st (X.lenL rfl rfl Tryd.underlying54) rfl ?_
      refine st (X.lss rfl rfl) rfl ?_
      refine Wn ?_
      refine tN ?_
      refine W_if rfl (fun h64 => ?_) (fun h64 => ?_)
      · first | replace h64 := of_decide_eq_true h64 | replace h64 := of_decide_eq_false (notT h64) | replace h64 := notT h64 | skip
        obtain ⟨q, hq⟩ : ∃ q, l[i]? = some q := ⟨_, List.getElem?_eq_getElem (by omega)⟩
        obtain ⟨g1, o1, c', hv, hg1⟩ := h.1.some_ (by omega)
        injection hv with e1 _ e3
        subst e1 e3
        refine W_skip ?_
        refine tN ?_
        refine W_seq ?_
        refine W_block ?_
        refine W_rs ?_
        refine sm rfl rfl ?_
        refine sm rfl rfl ?_
        refine st (X.idxA rfl rfl Tryd.underlying54 siz58 rfl (by omega)) rfl ?_
        refine st (X.fa fa58_0 rfl) rfl ?_
        refine st (X.ld rfl Tryd.underlying3 rfl (op_cell (h.bel hbw).1 rfl hq rfl)) rfl ?_
        refine st (X.lss rfl rfl) rfl ?_
        refine sb rfl rfl (fun h73 => ?_) (fun h73 => ?_)
        · first | replace h73 := of_decide_eq_true h73 | replace h73 := of_decide_eq_false (notT h73) | replace h73 := notT h73 | skip
          refine gN (g := 73) rfl rfl rfl rfl ?_
          refine gN (g := 73) rfl rfl rfl rfl ?_
          refine gN (g := 73) rfl rfl rfl rfl ?_
          refine gN (g := 73) rfl rfl rfl rfl ?_
          refine gN (g := 73) rfl rfl rfl rfl ?_
          refine gN (g := 73) rfl rfl rfl rfl ?_
          refine st (X.pickT rfl rfl) rfl ?_
          refine Wn ?_
          refine tN ?_
          refine W_yes rfl (rfl) ?_
          refine W_rs ?_
          refine sc _ Tryd.func24 rfl (by kernel_rfl) rfl rfl ((awake_any _).mono ?_)
          rintro e_ w7 ⟨rfl, hb⟩
          refine cR ?_
          replace hbw := bthen hbw hb
          replace hd := hd.bel hb
          replace hc := hc.bel hb
          have hz_w7 := hb.size
          clear hb
          refine sa rfl rfl ?_
          refine Wn ?_
          refine tN ?_
          refine W_ret (bR (tR (tR (bR (tR ?_)))))
          exact (rT rfl rfl ⟨rfl, hbw⟩).1
        · first | replace h73 := of_decide_eq_false h73 | replace h73 := of_decide_eq_true (notF h73) | replace h73 := notF h73 | skip
          refine gY (g := 73) rfl rfl rfl ?_
          refine sm rfl rfl ?_
          refine gY (g := 73) rfl rfl rfl ?_
          refine sm rfl rfl ?_
          refine gY (g := 73) rfl rfl rfl ?_
          refine st (X.idxA rfl rfl Tryd.underlying54 siz58 rfl (by omega)) rfl ?_
          refine gY (g := 73) rfl rfl rfl ?_
          refine st (X.fa fa58_0 rfl) rfl ?_
          refine gY (g := 73) rfl rfl rfl ?_
          refine st (X.ld rfl Tryd.underlying3 rfl (op_cell (h.bel hbw).1 rfl hq rfl)) rfl ?_
          refine gY (g := 73) rfl rfl rfl ?_
          refine st (X.gtr rfl rfl) rfl ?_
          refine st (X.pickF rfl rfl) rfl ?_
          refine Wn ?_
          refine tN ?_
          refine W_if rfl (fun h80 => ?_) (fun h80 => ?_)
          · first | replace h80 := of_decide_eq_true h80 | replace h80 := of_decide_eq_false (notT h80) | replace h80 := notT h80 | skip
            refine W_rs ?_
            refine sc _ Tryd.func24 rfl (by kernel_rfl) rfl rfl ((awake_any _).mono ?_)
            rintro e_ w8 ⟨rfl, hb⟩
            refine cR ?_
            replace hbw := bthen hbw hb
            replace hd := hd.bel hb
            replace hc := hc.bel hb
            have hz_w8 := hb.size
            clear hb
            refine sa rfl rfl ?_
            refine Wn ?_
            refine tN ?_
            refine W_ret (bR (tR (tR (bR (tR ?_)))))
            exact (rT rfl rfl ⟨rfl, hbw⟩).1
          · first | replace h80 := of_decide_eq_false h80 | replace h80 := of_decide_eq_true (notF h80) | replace h80 := notF h80 | skip
            refine W_skip ?_
            refine bN ?_
            refine tN ?_
            refine W_reg ?_
            refine sm rfl rfl ?_
            refine st (X.add64 rfl rfl (by omega)) rfl ?_
            refine sa rfl rfl ?_
            refine Wn ?_
            refine tN ⟨_, _, ?_, ⟨i + 1, rfl, rfl, by omega, hbw, hd, hc, ask_next hq hask (by omega)⟩, ⟨rfl, rfl, rfl, rfl, rfl, trivial⟩⟩
            omega
      · first | replace h64 := of_decide_eq_false h64 | replace h64 := of_decide_eq_true (notF h64) | replace h64 := notF h64 | skip
        have hask2 : ∀ q ∈ l, 0 ≤ q.ask ∧ q.ask ≤ 5 := fun q hq => by
          obtain ⟨j, hj, e⟩ := List.mem_iff_getElem.1 hq
          exact hask j q (by omega) (by rw [List.getElem?_eq_getElem hj, e])
        refine W_exit (tE (tE (bH ?_)))
        refine tN ?_
        refine W_rs ?_
        refine sm rfl rfl ?_
        refine sm rfl rfl ?_
        refine sc _ Tryd.func38 rfl (by kernel_rfl) rfl rfl ((Stop_any g _ _ n _ hd.at_).mono ?_)
        rintro e_ w9 ⟨rfl, h1, hX⟩
        refine cR ?_
        have hn1 := (hd.same h1 hX).conv (D' := (newM 2000).sl true (max (n - (0 : Nat)) 0)) (by unfold stopM DiskD.sl; rw [decide_eq_true (by omega)]; congr 1; omega)
        have hn2 := hc.other hX hdc
        have hbwn := bchg hbw hX (fun k hk => (hd.lo k hk).1)
        clear hd hc hbw h1 hX
        have hd := hn1
        have hc := hn2
        have hbw := hbwn
        clear hn1 hn2 hbwn
        refine Wn ?_
        refine tN ?_
        refine W_seq ?_
        refine W_rs ?_
        refine sa rfl rfl ?_
        refine Wn ?_
        refine tN ?_
        refine W_block ?_
        refine W_lp (fun nw10_ lw10_ w10 => ∃ k : Nat, ∃ B : DiskD, ∃ S : Nat → Prop, ∃ T : Nat → Prop, nw10_ = l.length - k ∧ lw10_ = ([(0, .slice a l.length cp), (1, .int .i64 n), (5, .pointer (some ⟨g, 0, none⟩)), (7, .pointer (some ⟨c, 0, none⟩)), (10, .int .i64 k)] : Env) ∧ (k ≤ l.length) ∧ (Below w.heap.size w w10) ∧ (Own w.heap.size w10 g (B.sl true (max (n - (k : Int)) 0)) S) ∧ (Own w.heap.size w10 c B T) ∧ (∀ k, S k → ¬ T k) ∧ (Good (301 * k) B) ∧ (B.stops = false)) _ ⟨_, ⟨0, newM 2000, S0, T0, rfl, rfl, Nat.zero_le _, hbw, hd, hc, hdc, u0, rfl⟩, ⟨rfl, rfl, rfl, rfl, rfl, trivial⟩⟩ ?_
        clear hbw hd hc hdc
        rintro nw10_ lw10_ w10 ⟨k, B, S, T, rfl, rfl, hi, hbw, hd, hc, hdc, hg, hs⟩
        have hz_w10 := hbw.size
        refine W_seq ?_
        refine W_rs ?_
        refine sm rfl rfl ?_
        refine sm rfl rfl ?_
        refine st (X.lenL rfl rfl Tryd.underlying54) rfl ?_
        refine st (X.lss rfl rfl) rfl ?_
        refine Wn ?_
        refine tN ?_
        refine W_if rfl (fun h88 => ?_) (fun h88 => ?_)
        · first | replace h88 := of_decide_eq_true h88 | replace h88 := of_decide_eq_false (notT h88) | replace h88 := notT h88 | skip
          obtain ⟨q, hq⟩ : ∃ q, l[k]? = some q := ⟨_, List.getElem?_eq_getElem (by omega)⟩
          obtain ⟨g1, o1, c', hv, hg1⟩ := h.1.some_ (by omega)
          injection hv with e1 _ e3
          subst e1 e3
          have hmem := List.mem_of_getElem? hq
          have hfq := hf2 q hmem
          have hgA := hg.sl true (t := max (n - (k : Int)) 0) (by omega)
          refine W_skip ?_
          refine tN ?_
          refine W_seq ?_
          refine W_block ?_
          refine W_rs ?_
          refine sm rfl rfl ?_
          refine sm rfl rfl ?_
          refine sm rfl rfl ?_
          refine st (X.idxA rfl rfl Tryd.underlying54 siz58 rfl (by omega)) rfl ?_
          refine st (X.ldN (cs := q.cells) rfl Tryd.underlying58 rfl siz58 ((h.bel hbw).1.rec_ (f := OpM.cells) (fun a _ => OpM.cells_length a) hq)) rfl ?_
          refine sc _ Tryd.func37 rfl (by kernel_rfl) rfl rfl ((does_any g _ S q (301 * k) _ hd.at_ hgA (by omega) ((h.bel hbw).2 q hmem) hfq (fun h0 k hk hs => by have := (h.2 q hmem).picks.ownLt h0 hk; have := hd.lo k hs; omega) (fun k hk => (hd.lo k hk).2)).mono ?_)
          rintro e_ w11 ⟨rfl, h1, hX⟩
          refine cR ?_
          have hn1 := hd.step h1 hX hbw.size
          have hn2 := hc.other hX hdc
          have hn3 := hc.ext (w := _) (w' := w11) hdc
          have hbwn := bchg hbw hX (fun k hk => (hd.lo k hk).1)
          clear hd hc hbw h1 hX
          have hd := hn1
          have hc := hn2
          have hbw := hbwn
          clear hn1 hn2 hbwn
          have hdc := hn3
          clear hn3
          refine sm rfl rfl ?_
          refine st (X.ext rfl rfl) rfl ?_
          refine st (X.ext rfl rfl) rfl ?_
          refine st (X.ext rfl rfl) rfl ?_
          refine sa rfl rfl ?_
          refine sa rfl rfl ?_
          refine sa rfl rfl ?_
          refine Wn ?_
          refine tN ?_
          refine W_rs ?_
          refine sm rfl rfl ?_
          refine sm rfl rfl ?_
          refine st (X.lss rfl rfl) rfl ?_
          refine Wn ?_
          refine tN ?_
          refine W_if rfl (fun h103 => ?_) (fun h103 => ?_)
          · first | replace h103 := of_decide_eq_true h103 | replace h103 := of_decide_eq_false (notT h103) | replace h103 := notT h103 | skip
            obtain ⟨hr1, hr2, hr3⟩ := stops_run (o := q) (hask2 q hmem) hs (t := max (n - (k : Int)) 0) (by omega)
            replace hd := hd.conv (D' := (doesM B q).2.sl true (max (n - ((k + 1 : Nat) : Int)) 0)) (by rw [hr2]; congr 1; omega)
            have hs2 := hr3
            have hg2 : Good (301 * (k + 1)) (doesM B q).2 := (does_good hg hfq (h.2 q hmem).n.2).mono (by omega)
            refine W_rs ?_
            refine sm rfl rfl ?_
            refine sm rfl rfl ?_
            refine sm rfl rfl ?_
            refine st (X.idxA rfl rfl Tryd.underlying54 siz58 rfl (by omega)) rfl ?_
            refine st (X.ldN (cs := q.cells) rfl Tryd.underlying58 rfl siz58 ((h.bel hbw).1.rec_ (f := OpM.cells) (fun a _ => OpM.cells_length a) hq)) rfl ?_
            refine sc _ Tryd.func37 rfl (by kernel_rfl) rfl rfl ((does_any c B T q (301 * k) _ hc.at_ hg (by omega) ((h.bel hbw).2 q hmem) hfq (fun h0 k hk hs => by have := (h.2 q hmem).picks.ownLt h0 hk; have := hc.lo k hs; omega) (fun k hk => (hc.lo k hk).2)).mono ?_)
            rintro e_ w12 ⟨rfl, h1, hX⟩
            refine cR ?_
            have hn1 := hc.step h1 hX hbw.size
            have hn2 := hd.other hX (fun k h1 h2 => hdc k h2 h1)
            have hn3 := hd.ext (w := _) (w' := w12) (fun k h1 h2 => hdc k h2 h1)
            have hbwn := bchg hbw hX (fun k hk => (hc.lo k hk).1)
            clear hd hc hbw h1 hX
            have hc := hn1
            have hd := hn2
            have hbw := hbwn
            clear hn1 hn2 hbwn
            have hdc : ∀ k, _ → ¬ _ := fun k h1 h2 => hn3 k h2 h1
            clear hn3
            refine sm rfl rfl ?_
            refine st (X.ext rfl rfl) rfl ?_
            refine st (X.ext rfl rfl) rfl ?_
            refine st (X.ext rfl rfl) rfl ?_
            refine sa rfl rfl ?_
            refine sa rfl rfl ?_
            refine sa rfl rfl ?_
            refine Wn ?_
            refine tN ?_
            refine W_rs ?_
            refine sm rfl rfl ?_
            refine sm rfl rfl ?_
            refine st (X.neq rfl rfl) rfl ?_
            refine Wn ?_
            refine tN ?_
            refine W_no rfl (decide_eq_false (by rw [hr1]; exact fun e => e rfl)) ?_
            refine W_skip ?_
            refine bN ?_
            refine tN ?_
            refine W_reg ?_
            refine sm rfl rfl ?_
            refine st (X.add64 rfl rfl (by omega)) rfl ?_
            refine sa rfl rfl ?_
            refine Wn ?_
            refine tN ⟨_, _, ?_, ⟨k + 1, _, _, _, rfl, rfl, by omega, hbw, hd, hc, hdc, hg2, hs2⟩, ⟨rfl, rfl, rfl, rfl, rfl, trivial⟩⟩
            omega
          · first | replace h103 := of_decide_eq_false h103 | replace h103 := of_decide_eq_true (notF h103) | replace h103 := notF h103 | skip
            have hmx : max (n - (k : Int)) 0 = 0 := by omega
            have hde : doesM (B.sl true (max (n - (k : Int)) 0)) q = (([], 0, 19), B.sl true (max (n - (k : Int)) 0)) := by rw [hmx]; exact stops_dead (hask2 q hmem)
            replace hd := hd.conv (D' := B.sl true (max (n - ((k + 1 : Nat) : Int)) 0)) (by rw [hde]; show B.sl true (max (n - (k : Int)) 0) = _; rw [show max (n - (k : Int)) 0 = max (n - ((k + 1 : Nat) : Int)) 0 by omega])
            have hs2 := hs
            have hg2 := hg.mono (m := 301 * (k + 1)) (by omega)
            refine W_rs ?_
            refine sm rfl rfl ?_
            refine st (X.neq rfl rfl) rfl ?_
            refine Wn ?_
            refine tN ?_
            refine W_no rfl (decide_eq_false (by rw [hde]; exact fun e => e rfl)) ?_
            refine W_skip ?_
            refine bN ?_
            refine tN ?_
            refine W_reg ?_
            refine sm rfl rfl ?_
            refine st (X.add64 rfl rfl (by omega)) rfl ?_
            refine sa rfl rfl ?_
            refine Wn ?_
            refine tN ⟨_, _, ?_, ⟨k + 1, _, _, _, rfl, rfl, by omega, hbw, hd, hc, hdc, hg2, hs2⟩, ⟨rfl, rfl, rfl, rfl, rfl, trivial⟩⟩
            omega
        · first | replace h88 := of_decide_eq_false h88 | replace h88 := of_decide_eq_true (notF h88) | replace h88 := notF h88 | skip
          obtain rfl : k = l.length := by omega
          have hgA := hg.sl true (t := max (n - (l.length : Int)) 0) (by omega)
          refine W_exit (tE (tE (bH ?_)))
          refine tN ?_
          refine W_seq ?_
          refine W_rs ?_
          refine sm rfl rfl ?_
          refine sm rfl rfl ?_
          refine sc _ Tryd.func39 rfl (by kernel_rfl) rfl rfl ((alike_any g c _ _ _ _ _ hd.at_ hc.at_ hgA.ok hg.ok rfl rfl (by have := hg.few; show B.files.length ≤ _; omega)).mono ?_)
          rintro e_ w13 ⟨rfl, hb⟩
          refine cR ?_
          replace hbw := bthen hbw hb
          replace hd := hd.bel hb
          replace hc := hc.bel hb
          have hz_w13 := hb.size
          clear hb
          refine st (X.not rfl) rfl ?_
          refine Wn ?_
          refine tN ?_
          refine W_no rfl (rfl) ?_
          refine W_skip ?_
          refine tN ?_
          refine W_rs ?_
          refine sm rfl rfl ?_
          have hloD := hd.lo
          have hloC := hc.lo
          refine sbs (ps := [(0, .const (.int .i64 3)), (1, .const (.int .i64 1))]) 1 rfl (bsl31 _) (by simp [maxLen]) rfl rfl (fun g124 w14 hR124 hg124 hb => ?_)
          replace hbw := bthen hbw hb
          replace hd := hd.bel hb
          replace hc := hc.bel hb
          have hz124 := hb.size
          clear hb
          refine sc _ Tryd.func28 rfl (by kernel_rfl) rfl rfl ((Crash_any g _ _ _ [3, 1] _ hd.at_ hgA.ok (hgA.bud (by omega)) (by have := hgA.few; omega) hR124.reads (fun _ k hk h1 => by simp [Value.ownBlock] at hk; have := hloD k h1; omega)).mono ?_)
          rintro e_ w15 ⟨rfl, h1, hX⟩
          refine cR ?_
          have hn1 := hd.step h1 hX hbw.size
          have hn2 := hc.other hX hdc
          have hn3 := hc.ext (w := _) (w' := w15) hdc
          have hbwn := bchg hbw hX (fun k hk => (hd.lo k hk).1)
          clear hd hc hbw h1 hX
          have hd := hn1
          have hc := hn2
          have hbw := hbwn
          clear hn1 hn2 hbwn
          have hdc := hn3
          clear hn3
          refine Wn ?_
          refine tN ?_
          refine W_rs ?_
          refine sm rfl rfl ?_
          have hloC := hc.lo
          refine sbs (ps := [(0, .const (.int .i64 3)), (1, .const (.int .i64 1))]) 1 rfl (bsl31 _) (by simp [maxLen]) rfl rfl (fun g127 w16 hR127 hg127 hb => ?_)
          replace hbw := bthen hbw hb
          replace hd := hd.bel hb
          replace hc := hc.bel hb
          have hz127 := hb.size
          clear hb
          refine sc _ Tryd.func28 rfl (by kernel_rfl) rfl rfl ((Crash_any c _ _ _ [3, 1] _ hc.at_ hg.ok (hg.bud (by omega)) (by have := hg.few; omega) hR127.reads (fun _ k hk h1 => by simp [Value.ownBlock] at hk; have := hloC k h1; omega)).mono ?_)
          rintro e_ w17 ⟨rfl, h1, hX⟩
          refine cR ?_
          have hn1 := hc.step h1 hX hbw.size
          have hn2 := hd.other hX (fun k h1 h2 => hdc k h2 h1)
          have hn3 := hd.ext (w := _) (w' := w17) (fun k h1 h2 => hdc k h2 h1)
          have hbwn := bchg hbw hX (fun k hk => (hc.lo k hk).1)
          clear hd hc hbw h1 hX
          have hc := hn1
          have hd := hn2
          have hbw := hbwn
          clear hn1 hn2 hbwn
          have hdc : ∀ k, _ → ¬ _ := fun k h1 h2 => hn3 k h2 h1
          clear hn3
          have hgB := crash_good hg [3, 1]
          have hgC := crash_good hgA [3, 1]
          refine Wn ?_
          refine tN ?_
          refine W_rs ?_
          refine sm rfl rfl ?_
          refine sm rfl rfl ?_
          refine sc _ Tryd.func39 rfl (by kernel_rfl) rfl rfl ((alike_any g c _ _ _ _ _ hd.at_ hc.at_ hgC.ok hgB.ok rfl rfl (by have := hgC.few; omega)).mono ?_)
          rintro e_ w18 ⟨rfl, hb⟩
          refine cR ?_
          replace hbw := bthen hbw hb
          replace hd := hd.bel hb
          replace hc := hc.bel hb
          have hz_w18 := hb.size
          clear hb
          refine sbY rfl (rfl) rfl ?_
          refine gY (g := 132) rfl rfl rfl ?_
          refine sm rfl rfl ?_
          refine gY (g := 132) rfl rfl rfl ?_
          refine sc _ Tryd.func25 rfl (by kernel_rfl) rfl rfl ((Create_any g _ _ [110, 101, 119] _ hd.at_ hgC.ok).mono ?_)
          rintro e_ w19 ⟨rfl, h1, hX⟩
          refine cR ?_
          have hn1 := hd.step h1 hX hbw.size
          have hn2 := hc.other hX hdc
          have hn3 := hc.ext (w := _) (w' := w19) hdc
          have hbwn := bchg hbw hX (fun k hk => (hd.lo k hk).1)
          clear hd hc hbw h1 hX
          have hd := hn1
          have hc := hn2
          have hbw := hbwn
          clear hn1 hn2 hbwn
          have hdc := hn3
          clear hn3
          refine gY (g := 132) rfl rfl rfl ?_
          refine sm rfl rfl ?_
          refine gY (g := 132) rfl rfl rfl ?_
          refine sc _ Tryd.func25 rfl (by kernel_rfl) rfl rfl ((Create_any c _ _ [110, 101, 119] _ hc.at_ hgB.ok).mono ?_)
          rintro e_ w20 ⟨rfl, h1, hX⟩
          refine cR ?_
          have hn1 := hc.step h1 hX hbw.size
          have hn2 := hd.other hX (fun k h1 h2 => hdc k h2 h1)
          have hn3 := hd.ext (w := _) (w' := w20) (fun k h1 h2 => hdc k h2 h1)
          have hbwn := bchg hbw hX (fun k hk => (hc.lo k hk).1)
          clear hd hc hbw h1 hX
          have hc := hn1
          have hd := hn2
          have hbw := hbwn
          clear hn1 hn2 hbwn
          have hdc : ∀ k, _ → ¬ _ := fun k h1 h2 => hn3 k h2 h1
          clear hn3
          refine gY (g := 132) rfl rfl rfl ?_
          refine st (X.eql rfl rfl) rfl ?_
          refine st (X.pickT rfl rfl) rfl ?_
          refine sbY rfl (decide_eq_true (create_same (D := crashD B [3, 1]) (n := [110, 101, 119]) (t := max (n - (l.length : Int)) 0) rfl)) rfl ?_
          refine gY (g := 139) rfl rfl rfl ?_
          refine sc _ Tryd.func24 rfl (by kernel_rfl) rfl rfl ((awake_any _).mono ?_)
          rintro e_ w21 ⟨rfl, hb⟩
          refine cR ?_
          replace hbw := bthen hbw hb
          replace hd := hd.bel hb
          replace hc := hc.bel hb
          have hz_w21 := hb.size
          clear hb
          refine st (X.pickT rfl rfl) rfl ?_
          refine sa rfl rfl ?_
          refine Wn ?_
          refine tN ?_
          refine W_ret ?_
          exact (rT rfl rfl ⟨rfl, hbw⟩).1
end Go.Proofs.YtnijmegalgoipaaDoor
