/- armariumlaw14.Text. -/
import Derived.Test.YtnagmpnpgekhfaaDoorGen
import Derived.Test.YtnagmpnpgekhfaaDoorTypes
namespace Go.Proofs.YtnagmpnpgekhfaaDoor
open Go.RowKit
theorem bs0 (w : World) : (Instr.buildSlice 58 0 #[]).run Tryd.prog w = .ok (.slice (some ⟨w.heap.size, 0, none⟩) 0 0) (w.alloc (.cells #[] 5)) := by kernel_rfl
theorem Text_any (l : List UInt8) (w : World) (hl : l.length = 32) :
    Calls Tryd.prog 26 #[.agg (l.map bv).toArray] w fun e w' => e = .returned (str l) ∧ Below w.heap.size w w' := by
  refine W_enter (args := [.agg (l.map bv).toArray]) 18 Tryd.func26 rfl rfl rfl ?_
  refine W_sub [(0, .agg (l.map bv).toArray)] ?_ ⟨rfl, trivial⟩
  have hbw := Below.refl w.heap.size w
  refine W_rs ?_
  refine sboxA rfl rfl (fun g1 w1 hB1 hg1 hb hl1 => ?_)
  replace hbw := bthen hbw hb
  have hz_w1 := hb.size
  clear hb
  refine sa rfl rfl ?_
  refine Wn ?_
  refine tN ?_
  refine W_rs ?_
  refine sbs (ps := []) 1 rfl (bs0 _) (by simp [maxLen]) rfl rfl (fun g5 w2 hR5 hg5 hb => ?_)
  replace hB1 := hB1.bel hb
  replace hbw := bthen hbw hb
  have hz_5 := hb.size
  clear hb
  refine sa rfl rfl ?_
  refine Wn ?_
  refine tN ?_
  refine W_seq ?_
  refine W_rs ?_
  refine sa rfl rfl ?_
  refine Wn ?_
  refine tN ?_
  refine W_block ?_
  refine W_lp (fun nw3_ lw3_ w3 => ∃ j : Nat, ∃ v : Value, nw3_ = 32 - j ∧ lw3_ = ([(1, .pointer (some ⟨g1, 0, none⟩)), (3, v), (4, .int .i64 j)] : Env) ∧ (j ≤ 32) ∧ (Row w3 5 1 v j ((l.take j).map bv)) ∧ (∀ k, v.ownBlock = some k → w.heap.size ≤ k) ∧ (Blk w3 g1 53 (l.map bv).toArray) ∧ (Below w.heap.size w w3)) _ ⟨_, ⟨0, .slice (some ⟨g5, 0, none⟩) 0 0, rfl, rfl, by omega, hR5, (fun k hk => by simp [Value.ownBlock] at hk; omega), hB1, hbw⟩, ⟨rfl, rfl, rfl, trivial⟩⟩ ?_
  clear hB1 hbw
  rintro nw3_ lw3_ w3 ⟨j, v, rfl, rfl, hj, hRv, hOv, hB1, hbw⟩
  have hz_w3 := hbw.size
  have hlt_hB1_w3 := hB1.lt
  refine W_seq ?_
  refine W_rs ?_
  refine sm rfl rfl ?_
  refine st (X.lss rfl rfl) rfl ?_
  refine Wn ?_
  refine tN ?_
  refine W_if rfl (fun h7 => ?_) (fun h7 => ?_)
  · first | replace h7 := of_decide_eq_true h7 | replace h7 := of_decide_eq_false (notT h7) | replace h7 := notT h7 | skip
    obtain ⟨x, hx⟩ : ∃ x, l[j]? = some x := ⟨_, List.getElem?_eq_getElem (by omega)⟩
    refine W_skip ?_
    refine tN ?_
    refine W_seq ?_
    refine W_block ?_
    refine W_reg ?_
    refine sm rfl rfl ?_
    refine sm rfl rfl ?_
    refine st (X.idxArr (j := j) rfl rfl Tryd.underlying53 siz5 rfl (by omega)) rfl ?_
    refine st (X.ldB rfl hB1 Tryd.underlying5 rfl (v := bv x) (by simp [hx])) rfl ?_
    refine sbs1 rfl Tryd.underlying58 inf5 rfl rfl (by decide) (by decide) rfl (fun g14 w4 hR14 hg14 hb => ?_)
    replace hbw := bthen hbw hb
    replace hB1 := hB1.bel hb
    replace hRv := hRv.bel hb
    have hz_w4 := hb.size
    clear hb
    have hl14 := hR14.blt (by decide)
    refine sapp rfl rfl Tryd.underlying58 inf5 rfl (by decide) hRv (hR14.src Tryd.underlying58 (by intro z hz; simp [Value.cells, bv] at hz; subst hz; rfl)) (by simp only [maxLen]; omega) (by omega) rfl (fun v' w5 hRv' hC hv' => ?_)
    replace hB1 := hB1.chg hC (hRv.ne_ hB1 (by decide))
    replace hbw := bapp hbw hC hOv
    replace hOv := own_next hv' hOv (by omega)
    clear hC
    refine sa rfl rfl ?_
    refine Wn ?_
    refine bN ?_
    refine tN ?_
    refine W_reg ?_
    refine sm rfl rfl ?_
    refine st (X.add64 rfl rfl (by omega)) rfl ?_
    refine sa rfl rfl ?_
    refine Wn ?_
    refine tN ⟨_, _, ?_, ⟨j + 1, v', rfl, rfl, by omega, by rw [take_next' hx, List.map_append]; exact hRv', hOv, hB1, hbw⟩, ⟨rfl, rfl, rfl, trivial⟩⟩
    omega
  · first | replace h7 := of_decide_eq_false h7 | replace h7 := of_decide_eq_true (notF h7) | replace h7 := notF h7 | skip
    obtain rfl : j = 32 := by omega
    rw [List.take_of_length_le (by omega)] at hRv
    refine W_exit (tE (tE (bH ?_)))
    refine tN ?_
    refine W_rs ?_
    refine sm rfl rfl ?_
    refine st (X.strOf (s := l) rfl Tryd.underlying58 Tryd.underlying5 Tryd.underlying9 hRv.reads) rfl ?_
    refine sa rfl rfl ?_
    refine Wn ?_
    refine tN ?_
    refine W_ret ?_
    exact (rT rfl rfl ⟨rfl, hbw⟩).1
end Go.Proofs.YtnagmpnpgekhfaaDoor
