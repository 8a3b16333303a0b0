/- armariumref06.Columns. armariumref19.Alike. armariumref19.Check. -/
import Derived.Test.YtnagmpnpgekhfaaDoorSchema
import Derived.Test.YtnagmpnpgekhfaaDoorManPlainOf
import Derived.Test.YtnagmpnpgekhfaaDoorStructEq
namespace Go.Proofs.YtnagmpnpgekhfaaDoor
open Go.RowKit
theorem from_bad {l : List Col} {j : Nat} {x : Col} (hx : l[j]? = some x) (h : colOk x = false ∨ x.name ∈ (l.take j).map (·.name)) : colsFrom ((l.take j).map (·.name)) (l.drop j) = false := by
  rw [colsFrom_at l j x hx]
  rcases h with h | h
  · simp [h]
  · rw [show decide (x.name ∉ (l.take j).map (·.name)) = false from decide_eq_false (fun hn => hn h)]; simp
theorem RefColumns_any (v : Value) (l : List Col) (w : World) (h : ColsAt w v l) (hT : UT w) :
    Calls Tryd.prog 44 #[v] w fun e w' => e = .returned (.bool (colsOk l)) ∧ Below w.heap.size w w' := by
  obtain ⟨a, c, rfl, hn, hc⟩ := h.1.shape
  refine W_enter (args := [.slice a l.length c]) 75 Tryd.func44 rfl rfl rfl ?_
  refine W_sub [(0, .slice a l.length c)] ?_ ⟨rfl, trivial⟩
  have hbw := Below.refl w.heap.size w
  refine W_rs ?_
  refine sa rfl rfl ?_
  refine Wn ?_
  refine tN ?_
  refine W_seq ?_
  refine W_rs ?_
  refine sa rfl rfl ?_
  refine Wn ?_
  refine tN ?_
  refine W_block ?_
  refine W_lp (fun nw1_ lw1_ w1 => ∃ j : Nat, nw1_ = l.length - j ∧ lw1_ = ([(0, .slice a l.length c), (3, .int .i64 j)] : Env) ∧ (j ≤ l.length) ∧ (colsFrom [] l = colsFrom ((l.take j).map (·.name)) (l.drop j)) ∧ (Below w.heap.size w w1)) _ ⟨_, ⟨0, rfl, rfl, by omega, rfl, hbw⟩, ⟨rfl, rfl, trivial⟩⟩ ?_
  clear hbw
  rintro nw1_ lw1_ w1 ⟨j, rfl, rfl, hj, hf, hbw⟩
  have hz_w1 := hbw.size
  refine W_seq ?_
  refine W_rs ?_
  refine sm rfl rfl ?_
  refine sm rfl rfl ?_
  refine st (X.lenL rfl rfl Tryd.underlying23) rfl ?_
  refine st (X.lss rfl rfl) rfl ?_
  refine Wn ?_
  refine tN ?_
  refine W_if rfl (fun h8 => ?_) (fun h8 => ?_)
  · first | replace h8 := of_decide_eq_true h8 | replace h8 := of_decide_eq_false (notT h8) | replace h8 := notT h8 | skip
    obtain ⟨x, hx⟩ : ∃ x, l[j]? = some x := ⟨_, List.getElem?_eq_getElem (by omega)⟩
    obtain ⟨g, o, c', hv, hg⟩ := (h.1.bel hbw).some_ (by omega)
    injection hv with e1 _ e3
    subst e1 e3
    have hxn := h.2 x (List.mem_of_getElem? hx)
    refine W_skip ?_
    refine tN ?_
    refine W_seq ?_
    refine W_block ?_
    refine W_seq ?_
    refine W_rs ?_
    refine sa rfl rfl ?_
    refine Wn ?_
    refine tN ?_
    refine W_block ?_
    refine W_lp (fun nw2_ lw2_ w2 => ∃ k : Nat, nw2_ = j - k ∧ lw2_ = ([(0, .slice (some ⟨g, o, none⟩) l.length c), (3, .int .i64 j), (4, .int .i64 k)] : Env) ∧ (k ≤ j) ∧ (x.name ∉ (l.take k).map (·.name)) ∧ (Below w.heap.size w w2)) _ ⟨_, ⟨0, rfl, rfl, by omega, by simp, hbw⟩, ⟨rfl, rfl, rfl, trivial⟩⟩ ?_
    clear hbw
    rintro nw2_ lw2_ w2 ⟨k, rfl, rfl, hk, hno, hbw⟩
    have hz_w2 := hbw.size
    refine W_seq ?_
    refine W_rs ?_
    refine sm rfl rfl ?_
    refine sm rfl rfl ?_
    refine st (X.lss rfl rfl) rfl ?_
    refine Wn ?_
    refine tN ?_
    refine W_if rfl (fun h13 => ?_) (fun h13 => ?_)
    · first | replace h13 := of_decide_eq_true h13 | replace h13 := of_decide_eq_false (notT h13) | replace h13 := notT h13 | skip
      obtain ⟨y, hy⟩ : ∃ y, l[k]? = some y := ⟨_, List.getElem?_eq_getElem (by omega)⟩
      refine W_skip ?_
      refine tN ?_
      refine W_seq ?_
      refine W_block ?_
      refine W_drsN (fun W_ => W_.rangeAt g (o + j * 3) x.cells ∧ W_.rangeAt g (o + k * 3) y.cells) [0, 1, 2, 3, 4, 5, 6, 7, 8, 9, 10] [true, true, true, true, true, true, true, true, true, true, true] (by kernel_rfl) (by kernel_rfl) (⟨(h.bel (bdrew hbw)).range hx, (h.bel (bdrew hbw)).range hy⟩) ?_
      obtain ⟨w3, hw_⟩ : ∃ w3 : World, w3 = World.drew w2 := ⟨_, rfl⟩
      rw [← hw_]
      have hb : Below w2.heap.size w2 w3 := by rw [hw_]; exact bdrew (Below.refl _ _)
      clear hw_
      have hS := hb
      replace hbw := bthen hbw hb
      have hz_w3 := hb.size
      clear hb
      refine oY rfl (fun W_ hW_ => (X.move rfl)) rfl ?_
      refine oY rfl (fun W_ hW_ => (X.move rfl)) rfl ?_
      refine oY rfl (fun W_ hW_ => (X.idxA rfl rfl Tryd.underlying23 siz60 rfl (by omega))) rfl ?_
      refine oY rfl (fun W_ hW_ => (X.fa fa60_0 rfl)) rfl ?_
      refine oY rfl (fun W_ hW_ => (X.ld rfl Tryd.underlying9 rfl (hW_.1 0 _ rfl))) rfl ?_
      refine oY rfl (fun W_ hW_ => (X.move rfl)) rfl ?_
      refine oY rfl (fun W_ hW_ => (X.move rfl)) rfl ?_
      refine oY rfl (fun W_ hW_ => (X.idxA rfl rfl Tryd.underlying23 siz60 rfl (by omega))) rfl ?_
      refine oY rfl (fun W_ hW_ => (X.fa fa60_0 rfl)) rfl ?_
      refine oY rfl (fun W_ hW_ => (X.ld rfl Tryd.underlying9 rfl (hW_.2 0 _ rfl))) rfl ?_
      refine oY rfl (fun W_ hW_ => (X.eqS rfl rfl)) rfl ?_
      refine oN ?_
      refine nN ?_
      refine W_if rfl (fun h26 => ?_) (fun h26 => ?_)
      · first | replace h26 := of_decide_eq_true h26 | replace h26 := of_decide_eq_false (notT h26) | replace h26 := notT h26 | skip
        refine W_rs ?_
        refine sa rfl rfl ?_
        refine Wn ?_
        refine tN ?_
        refine W_ret (bR (tR (tR (bR (tR (bR (tR (tR (bR (tR ?_))))))))))
        refine (rT rfl rfl ⟨?_, hbw⟩).1
        rw [show colsOk l = false by unfold colsOk; rw [hf, from_bad hx (.inr (List.mem_map.2 ⟨y, List.mem_of_getElem? (i := k) (by rw [List.getElem?_take_of_lt (by omega)]; exact hy), h26.symm⟩))]; simp]
      · first | replace h26 := of_decide_eq_false h26 | replace h26 := of_decide_eq_true (notF h26) | replace h26 := notF h26 | skip
        refine W_skip ?_
        refine bN ?_
        refine tN ?_
        refine W_reg ?_
        refine sm rfl rfl ?_
        refine st (X.add64 rfl rfl (by omega)) rfl ?_
        refine sa rfl rfl ?_
        refine Wn ?_
        refine tN ⟨_, _, ?_, ⟨k + 1, rfl, rfl, by omega, by rw [take_next' hy, List.map_append, List.mem_append]; intro hq; rcases hq with hq | hq; exact hno hq; simp at hq; exact h26 hq, hbw⟩, ⟨rfl, rfl, rfl, trivial⟩⟩
        omega
    · first | replace h13 := of_decide_eq_false h13 | replace h13 := of_decide_eq_true (notF h13) | replace h13 := notF h13 | skip
      have hkj : k = j := by omega
      rw [hkj] at hno
      have hrg := (h.bel hbw).range hx
      refine W_exit (tE (tE (bH ?_)))
      refine tN ?_
      refine W_rs ?_
      refine sm rfl rfl ?_
      refine sm rfl rfl ?_
      refine st (X.idxA rfl rfl Tryd.underlying23 siz60 rfl (by omega)) rfl ?_
      refine st (X.fa fa60_0 rfl) rfl ?_
      refine st (X.ld rfl Tryd.underlying9 rfl (hrg 0 _ rfl)) rfl ?_
      refine st (X.eqS rfl rfl) rfl ?_
      refine sb rfl rfl (fun h33 => ?_) (fun h33 => ?_)
      · first | replace h33 := of_decide_eq_true h33 | replace h33 := of_decide_eq_false (notT h33) | replace h33 := notT h33 | skip
        refine gN (g := 33) rfl rfl rfl rfl ?_
        refine gN (g := 33) rfl rfl rfl rfl ?_
        refine gN (g := 33) rfl rfl rfl rfl ?_
        refine gN (g := 33) rfl rfl rfl rfl ?_
        refine gN (g := 33) rfl rfl rfl rfl ?_
        refine gN (g := 33) rfl rfl rfl rfl ?_
        refine gN (g := 33) rfl rfl rfl rfl ?_
        refine st (X.pickT rfl rfl) rfl ?_
        refine sm rfl rfl ?_
        refine gN (g := 42) rfl rfl rfl rfl ?_
        refine gN (g := 42) rfl rfl rfl rfl ?_
        refine gN (g := 42) rfl rfl rfl rfl ?_
        refine gN (g := 42) rfl rfl rfl rfl ?_
        refine gN (g := 42) rfl rfl rfl rfl ?_
        refine gN (g := 42) rfl rfl rfl rfl ?_
        refine gN (g := 42) rfl rfl rfl rfl ?_
        refine st (X.pickT rfl rfl) rfl ?_
        refine sm rfl rfl ?_
        refine gN (g := 51) rfl rfl rfl rfl ?_
        refine gN (g := 51) rfl rfl rfl rfl ?_
        refine gN (g := 51) rfl rfl rfl rfl ?_
        refine gN (g := 51) rfl rfl rfl rfl ?_
        refine gN (g := 51) rfl rfl rfl rfl ?_
        refine gN (g := 51) rfl rfl rfl rfl ?_
        refine st (X.pickT rfl rfl) rfl ?_
        refine sm rfl rfl ?_
        refine gN (g := 59) rfl rfl rfl rfl ?_
        refine gN (g := 59) rfl rfl rfl rfl ?_
        refine gN (g := 59) rfl rfl rfl rfl ?_
        refine gN (g := 59) rfl rfl rfl rfl ?_
        refine gN (g := 59) rfl rfl rfl rfl ?_
        refine gN (g := 59) rfl rfl rfl rfl ?_
        refine st (X.pickT rfl rfl) rfl ?_
        refine Wn ?_
        refine tN ?_
        refine W_yes rfl (rfl) ?_
        refine W_rs ?_
        refine sa rfl rfl ?_
        refine Wn ?_
        refine tN ?_
        refine W_ret (bR (tR (tR (bR (tR ?_)))))
        refine (rT rfl rfl ⟨?_, hbw⟩).1
        rw [show colsOk l = false by unfold colsOk; rw [hf, from_bad hx (.inl (by unfold colOk; simp [h33]))]; simp]
      · first | replace h33 := of_decide_eq_false h33 | replace h33 := of_decide_eq_true (notF h33) | replace h33 := notF h33 | skip
        refine gY (g := 33) rfl rfl rfl ?_
        refine sm rfl rfl ?_
        refine gY (g := 33) rfl rfl rfl ?_
        refine sm rfl rfl ?_
        refine gY (g := 33) rfl rfl rfl ?_
        refine st (X.idxA rfl rfl Tryd.underlying23 siz60 rfl (by omega)) rfl ?_
        refine gY (g := 33) rfl rfl rfl ?_
        refine st (X.fa fa60_0 rfl) rfl ?_
        refine gY (g := 33) rfl rfl rfl ?_
        refine st (X.ld rfl Tryd.underlying9 rfl (hrg 0 _ rfl)) rfl ?_
        refine gY (g := 33) rfl rfl rfl ?_
        refine st (X.lenS rfl rfl Tryd.underlying9) rfl ?_
        refine gY (g := 33) rfl rfl rfl ?_
        refine st (X.gtr rfl rfl) rfl ?_
        refine st (X.pickF rfl rfl) rfl ?_
        refine sb rfl rfl (fun h42 => ?_) (fun h42 => ?_)
        · first | replace h42 := of_decide_eq_true h42 | replace h42 := of_decide_eq_false (notT h42) | replace h42 := notT h42 | skip
          refine gN (g := 42) rfl rfl rfl rfl ?_
          refine gN (g := 42) rfl rfl rfl rfl ?_
          refine gN (g := 42) rfl rfl rfl rfl ?_
          refine gN (g := 42) rfl rfl rfl rfl ?_
          refine gN (g := 42) rfl rfl rfl rfl ?_
          refine gN (g := 42) rfl rfl rfl rfl ?_
          refine gN (g := 42) rfl rfl rfl rfl ?_
          refine st (X.pickT rfl rfl) rfl ?_
          refine sm rfl rfl ?_
          refine gN (g := 51) rfl rfl rfl rfl ?_
          refine gN (g := 51) rfl rfl rfl rfl ?_
          refine gN (g := 51) rfl rfl rfl rfl ?_
          refine gN (g := 51) rfl rfl rfl rfl ?_
          refine gN (g := 51) rfl rfl rfl rfl ?_
          refine gN (g := 51) rfl rfl rfl rfl ?_
          refine st (X.pickT rfl rfl) rfl ?_
          refine sm rfl rfl ?_
          refine gN (g := 59) rfl rfl rfl rfl ?_
          refine gN (g := 59) rfl rfl rfl rfl ?_
          refine gN (g := 59) rfl rfl rfl rfl ?_
          refine gN (g := 59) rfl rfl rfl rfl ?_
          refine gN (g := 59) rfl rfl rfl rfl ?_
          refine gN (g := 59) rfl rfl rfl rfl ?_
          refine st (X.pickT rfl rfl) rfl ?_
          refine Wn ?_
          refine tN ?_
          refine W_yes rfl (rfl) ?_
          refine W_rs ?_
          refine sa rfl rfl ?_
          refine Wn ?_
          refine tN ?_
          refine W_ret (bR (tR (tR (bR (tR ?_)))))
          refine (rT rfl rfl ⟨?_, hbw⟩).1
          rw [show colsOk l = false by unfold colsOk; rw [hf, from_bad hx (.inl (by unfold colOk; rw [show decide (x.name.length ≤ 64) = false from decide_eq_false (by omega)]; simp))]; simp]
        · first | replace h42 := of_decide_eq_false h42 | replace h42 := of_decide_eq_true (notF h42) | replace h42 := notF h42 | skip
          refine gY (g := 42) rfl rfl rfl ?_
          refine sm rfl rfl ?_
          refine gY (g := 42) rfl rfl rfl ?_
          refine sm rfl rfl ?_
          refine gY (g := 42) rfl rfl rfl ?_
          refine st (X.idxA rfl rfl Tryd.underlying23 siz60 rfl (by omega)) rfl ?_
          refine gY (g := 42) rfl rfl rfl ?_
          refine st (X.fa fa60_0 rfl) rfl ?_
          refine gY (g := 42) rfl rfl rfl ?_
          refine st (X.ld rfl Tryd.underlying9 rfl (hrg 0 _ rfl)) rfl ?_
          refine gY (g := 42) rfl rfl rfl ?_
          refine sc _ Tryd.func47 rfl (by kernel_rfl) rfl rfl ((valid_any x.name _ hxn (hT.bel hbw)).mono ?_)
          rintro e_ w4 ⟨rfl, hb⟩
          refine cR ?_
          replace hbw := bthen hbw hb
          have hz_w4 := hb.size
          clear hb
          replace hrg := (h.bel hbw).range hx
          refine gY (g := 42) rfl rfl rfl ?_
          refine st (X.not rfl) rfl ?_
          refine st (X.pickF rfl rfl) rfl ?_
          refine sb rfl rfl (fun h51 => ?_) (fun h51 => ?_)
          · first | replace h51 := of_decide_eq_true h51 | replace h51 := of_decide_eq_false (notT h51) | replace h51 := notT h51 | skip
            refine gN (g := 51) rfl rfl rfl rfl ?_
            refine gN (g := 51) rfl rfl rfl rfl ?_
            refine gN (g := 51) rfl rfl rfl rfl ?_
            refine gN (g := 51) rfl rfl rfl rfl ?_
            refine gN (g := 51) rfl rfl rfl rfl ?_
            refine gN (g := 51) rfl rfl rfl rfl ?_
            refine st (X.pickT rfl rfl) rfl ?_
            refine sm rfl rfl ?_
            refine gN (g := 59) rfl rfl rfl rfl ?_
            refine gN (g := 59) rfl rfl rfl rfl ?_
            refine gN (g := 59) rfl rfl rfl rfl ?_
            refine gN (g := 59) rfl rfl rfl rfl ?_
            refine gN (g := 59) rfl rfl rfl rfl ?_
            refine gN (g := 59) rfl rfl rfl rfl ?_
            refine st (X.pickT rfl rfl) rfl ?_
            refine Wn ?_
            refine tN ?_
            refine W_yes rfl (rfl) ?_
            refine W_rs ?_
            refine sa rfl rfl ?_
            refine Wn ?_
            refine tN ?_
            refine W_ret (bR (tR (tR (bR (tR ?_)))))
            refine (rT rfl rfl ⟨?_, hbw⟩).1
            rw [show colsOk l = false by unfold colsOk; rw [hf, from_bad hx (.inl (by unfold colOk; simp [h51]))]; simp]
          · first | replace h51 := of_decide_eq_false h51 | replace h51 := of_decide_eq_true (notF h51) | replace h51 := notF h51 | skip
            refine gY (g := 51) rfl rfl rfl ?_
            refine sm rfl rfl ?_
            refine gY (g := 51) rfl rfl rfl ?_
            refine sm rfl rfl ?_
            refine gY (g := 51) rfl rfl rfl ?_
            refine st (X.idxA rfl rfl Tryd.underlying23 siz60 rfl (by omega)) rfl ?_
            refine gY (g := 51) rfl rfl rfl ?_
            refine st (X.fa fa60_1 rfl) rfl ?_
            refine gY (g := 51) rfl rfl rfl ?_
            refine st (X.ld rfl Tryd.underlying3 rfl (hrg 1 _ rfl)) rfl ?_
            refine gY (g := 51) rfl rfl rfl ?_
            refine st (X.lss rfl rfl) rfl ?_
            refine st (X.pickF rfl rfl) rfl ?_
            refine sb rfl rfl (fun h59 => ?_) (fun h59 => ?_)
            · first | replace h59 := of_decide_eq_true h59 | replace h59 := of_decide_eq_false (notT h59) | replace h59 := notT h59 | skip
              refine gN (g := 59) rfl rfl rfl rfl ?_
              refine gN (g := 59) rfl rfl rfl rfl ?_
              refine gN (g := 59) rfl rfl rfl rfl ?_
              refine gN (g := 59) rfl rfl rfl rfl ?_
              refine gN (g := 59) rfl rfl rfl rfl ?_
              refine gN (g := 59) rfl rfl rfl rfl ?_
              refine st (X.pickT rfl rfl) rfl ?_
              refine Wn ?_
              refine tN ?_
              refine W_yes rfl (rfl) ?_
              refine W_rs ?_
              refine sa rfl rfl ?_
              refine Wn ?_
              refine tN ?_
              refine W_ret (bR (tR (tR (bR (tR ?_)))))
              refine (rT rfl rfl ⟨?_, hbw⟩).1
              rw [show colsOk l = false by unfold colsOk; rw [hf, from_bad hx (.inl (by unfold colOk; rw [show decide (1 ≤ x.kind ∧ x.kind ≤ 6) = false from decide_eq_false (by omega)]; simp))]; simp]
            · first | replace h59 := of_decide_eq_false h59 | replace h59 := of_decide_eq_true (notF h59) | replace h59 := notF h59 | skip
              refine gY (g := 59) rfl rfl rfl ?_
              refine sm rfl rfl ?_
              refine gY (g := 59) rfl rfl rfl ?_
              refine sm rfl rfl ?_
              refine gY (g := 59) rfl rfl rfl ?_
              refine st (X.idxA rfl rfl Tryd.underlying23 siz60 rfl (by omega)) rfl ?_
              refine gY (g := 59) rfl rfl rfl ?_
              refine st (X.fa fa60_1 rfl) rfl ?_
              refine gY (g := 59) rfl rfl rfl ?_
              refine st (X.ld rfl Tryd.underlying3 rfl (hrg 1 _ rfl)) rfl ?_
              refine gY (g := 59) rfl rfl rfl ?_
              refine st (X.gtr rfl rfl) rfl ?_
              refine st (X.pickF rfl rfl) rfl ?_
              refine Wn ?_
              refine tN ?_
              refine W_if rfl (fun h66 => ?_) (fun h66 => ?_)
              · first | replace h66 := of_decide_eq_true h66 | replace h66 := of_decide_eq_false (notT h66) | replace h66 := notT h66 | skip
                refine W_rs ?_
                refine sa rfl rfl ?_
                refine Wn ?_
                refine tN ?_
                refine W_ret (bR (tR (tR (bR (tR ?_)))))
                refine (rT rfl rfl ⟨?_, hbw⟩).1
                rw [show colsOk l = false by unfold colsOk; rw [hf, from_bad hx (.inl (by unfold colOk; rw [show decide (1 ≤ x.kind ∧ x.kind ≤ 6) = false from decide_eq_false (by omega)]; simp))]; simp]
              · first | replace h66 := of_decide_eq_false h66 | replace h66 := of_decide_eq_true (notF h66) | replace h66 := notF h66 | skip
                have hok : colOk x = true := by unfold colOk; rw [show validU x.name = true by simpa using h51, decide_eq_true h33, show decide (x.name.length ≤ 64) = true from decide_eq_true (by omega), show decide (1 ≤ x.kind ∧ x.kind ≤ 6) = true from decide_eq_true (by omega)]; rfl
                refine W_skip ?_
                refine bN ?_
                refine tN ?_
                refine W_reg ?_
                refine sm rfl rfl ?_
                refine st (X.add64 rfl rfl (by omega)) rfl ?_
                refine sa rfl rfl ?_
                refine Wn ?_
                refine tN ⟨_, _, ?_, ⟨j + 1, rfl, rfl, by omega, by rw [hf, colsFrom_at l j x hx, hok, decide_eq_true hno]; rfl, hbw⟩, ⟨rfl, rfl, trivial⟩⟩
                omega
  · first | replace h8 := of_decide_eq_false h8 | replace h8 := of_decide_eq_true (notF h8) | replace h8 := notF h8 | skip
    refine W_exit (tE (tE (bH ?_)))
    refine tN ?_
    refine W_rs ?_
    refine sm rfl rfl ?_
    refine st (X.lenL rfl rfl Tryd.underlying23) rfl ?_
    refine st (X.geq rfl rfl) rfl ?_
    refine sb rfl rfl (fun h70 => ?_) (fun h70 => ?_)
    · first | replace h70 := of_decide_eq_true h70 | replace h70 := of_decide_eq_false (notT h70) | replace h70 := notT h70 | skip
      refine gY (g := 70) rfl rfl rfl ?_
      refine sm rfl rfl ?_
      refine gY (g := 70) rfl rfl rfl ?_
      refine st (X.lenL rfl rfl Tryd.underlying23) rfl ?_
      refine gY (g := 70) rfl rfl rfl ?_
      refine st (X.leq rfl rfl) rfl ?_
      refine st (X.pickT rfl rfl) rfl ?_
      refine sa rfl rfl ?_
      refine Wn ?_
      refine tN ?_
      refine W_ret ?_
      refine (rT rfl rfl ⟨?_, hbw⟩).1
      obtain rfl : j = l.length := by omega
      unfold colsOk; rw [hf, List.drop_length, show ∀ q, colsFrom q [] = true from fun _ => rfl, Bool.and_true]; congr 2; rw [decide_eq_decide]; omega
    · first | replace h70 := of_decide_eq_false h70 | replace h70 := of_decide_eq_true (notF h70) | replace h70 := notF h70 | skip
      refine gN (g := 70) rfl rfl rfl rfl ?_
      refine gN (g := 70) rfl rfl rfl rfl ?_
      refine gN (g := 70) rfl rfl rfl rfl ?_
      refine st (X.pickF rfl rfl) rfl ?_
      refine sa rfl rfl ?_
      refine Wn ?_
      refine tN ?_
      refine W_ret ?_
      refine (rT rfl rfl ⟨?_, hbw⟩).1
      unfold colsOk; rw [show decide (1 ≤ l.length ∧ l.length ≤ 32) = false from decide_eq_false (by omega)]; rfl
end Go.Proofs.YtnagmpnpgekhfaaDoor
namespace Go.Proofs.YtnagmpnpgekhfaaDoor
open Go.RowKit
theorem fieldsRChkE : Tryd.prog.underlying 69 = some (.struct (Tryd.prog.fieldsOf 69)) := by kernel_rfl
set_option maxRecDepth 30000 in
theorem eqRChk (a b : Chk) (w : World) : (Op.equalIn 10000 69 (.agg (rcells a).toArray) (.agg (rcells b).toArray)).run Tryd.prog w = .ok (decide (a = b)) w := by
  refine (run_equalIn_struct w 9999 _ _ _ fieldsRChkE (by kernel_rfl)).trans ?_
  have hf := Option.some.inj (fieldsRChkE.symm.trans Tryd.underlying69)
  injection hf with hf
  rw [hf]
  have h1 : ∀ c : Chk, (part 9 (rcells c).toArray 0).run Tryd.prog w = .ok (str c.sum) w := fun c => run_part1 Tryd.underlying9 rfl rfl
  have h2 : ∀ c : Chk, (part 3 (rcells c).toArray 1).run Tryd.prog w = .ok (.int .i64 c.len) w := fun c => run_part1 Tryd.underlying3 rfl rfl
  have e1 : (Op.equalIn 9999 9 (str a.sum) (str b.sum)).run Tryd.prog w = .ok (a.sum == b.sum) w := by
    unfold str
    rw [run_equalIn_string w 9998 9 _ _ Tryd.underlying9, ByteArray.toList_eq, ByteArray.toList_eq]
  have e2 : (Op.equalIn 9999 3 (.int .i64 a.len) (.int .i64 b.len)).run Tryd.prog w = .ok (a.len == b.len) w := run_equalIn_int w 9998 3 .i64 .i64 _ _ Tryd.underlying3
  rw [← chk_dec]
  exact eqFields_cons (by decide) (h1 a) (h1 b) e1 (fun _ => eqFields_one (by decide) (h2 a) (h2 b) e2)
theorem X.neRChk {l : Env} {x y : Operand} {w : World} {t' ty : TypeId} {a b : Chk} (hx : ev l x = some (.agg (rcells a).toArray)) (hy : ev l y = some (.agg (rcells b).toArray)) : X Tryd.prog l (.binOp .neq 69 x y t') ty w (.bool (decide (a ≠ b))) w :=
  X.bin hx hy (fun c d => run_eqGuard_agg w .neq _ c d _ _ (by kernel_rfl)) (by rw [run_neq_struct, eqRChk]; simp [Result.andThen])
set_option maxRecDepth 10000 in
theorem RefAlike_any (a b : Man) (vc vr uc ur : Value) (w : World) (hc : ColsAt w vc a.cols) (hr : RStrsAt w vr a.strs) (kc : ColsAt w uc b.cols) (kr : RStrsAt w ur b.strs) :
    Calls Tryd.prog 10 #[.agg #[.int .i64 a.id, .int .i64 a.rows, vc, vr], .agg #[.int .i64 b.id, .int .i64 b.rows, uc, ur]] w fun e w' => e = .returned (.bool (alike a b)) ∧ Below w.heap.size w w' := by
  obtain ⟨ac, cc, rfl, hcn, hcc⟩ := hc.1.shape
  obtain ⟨bc, dc, rfl, kcn, kcc⟩ := kc.1.shape
  obtain ⟨us, hR, hu⟩ := hr
  obtain ⟨as_, cs, rfl, hsn, hsc⟩ := hR.shape
  obtain ⟨uu, kR, ku⟩ := kr
  obtain ⟨bs_, ds_, rfl, ksn, ksc⟩ := kR.shape
  refine W_enter (args := [.agg #[.int .i64 a.id, .int .i64 a.rows, .slice ac a.cols.length cc, .slice as_ a.strs.length cs], .agg #[.int .i64 b.id, .int .i64 b.rows, .slice bc b.cols.length dc, .slice bs_ b.strs.length ds_]]) 96 Tryd.func10 rfl rfl rfl ?_
  refine W_sub [(0, .agg #[.int .i64 a.id, .int .i64 a.rows, .slice ac a.cols.length cc, .slice as_ a.strs.length cs]), (1, .agg #[.int .i64 b.id, .int .i64 b.rows, .slice bc b.cols.length dc, .slice bs_ b.strs.length ds_])] ?_ ⟨rfl, rfl, trivial⟩
  have hbw := Below.refl w.heap.size w
  refine W_rs ?_
  refine sboxA rfl rfl (fun g2 w1 hB2 hg2 hb hl2 => ?_)
  replace hbw := bthen hbw hb
  have hz_w1 := hb.size
  clear hb
  refine sboxA rfl rfl (fun g3 w2 hB3 hg3 hb hl3 => ?_)
  replace hbw := bthen hbw hb
  replace hB2 := hB2.bel hb
  have hz_w2 := hb.size
  clear hb
  refine sa rfl rfl ?_
  refine Wn ?_
  refine tN ?_
  refine W_seq ?_
  refine W_rs ?_
  refine st (X.fa fa32_1 rfl) rfl ?_
  refine st (X.ldL rfl hB2 Tryd.underlying3 rfl rfl) rfl ?_
  refine st (X.fa fa32_1 rfl) rfl ?_
  refine st (X.ldL rfl hB3 Tryd.underlying3 rfl rfl) rfl ?_
  refine st (X.neq rfl rfl) rfl ?_
  refine sb rfl rfl (fun h13 => ?_) (fun h13 => ?_)
  · first | replace h13 := of_decide_eq_true h13 | replace h13 := of_decide_eq_false (notT h13) | replace h13 := notT h13 | skip
    refine gN (g := 13) rfl rfl rfl rfl ?_
    refine gN (g := 13) rfl rfl rfl rfl ?_
    refine gN (g := 13) rfl rfl rfl rfl ?_
    refine gN (g := 13) rfl rfl rfl rfl ?_
    refine gN (g := 13) rfl rfl rfl rfl ?_
    refine gN (g := 13) rfl rfl rfl rfl ?_
    refine gN (g := 13) rfl rfl rfl rfl ?_
    refine st (X.pickT rfl rfl) rfl ?_
    refine sm rfl rfl ?_
    refine gN (g := 22) rfl rfl rfl rfl ?_
    refine gN (g := 22) rfl rfl rfl rfl ?_
    refine gN (g := 22) rfl rfl rfl rfl ?_
    refine gN (g := 22) rfl rfl rfl rfl ?_
    refine gN (g := 22) rfl rfl rfl rfl ?_
    refine gN (g := 22) rfl rfl rfl rfl ?_
    refine gN (g := 22) rfl rfl rfl rfl ?_
    refine st (X.pickT rfl rfl) rfl ?_
    refine Wn ?_
    refine tN ?_
    refine W_yes rfl (rfl) ?_
    refine W_rs ?_
    refine sa rfl rfl ?_
    refine Wn ?_
    refine tN ?_
    refine W_ret (tR ?_)
    refine (rT rfl rfl ⟨?_, hbw⟩).1
    rw [show alike a b = false from decide_eq_false (fun h => by obtain ⟨q1, q2, q3⟩ := h; have e2 := congrArg List.length q2; have e3 := congrArg List.length q3; omega)]
  · first | replace h13 := of_decide_eq_false h13 | replace h13 := of_decide_eq_true (notF h13) | replace h13 := notF h13 | skip
    refine gY (g := 13) rfl rfl rfl ?_
    refine st (X.fa fa32_2 rfl) rfl ?_
    refine gY (g := 13) rfl rfl rfl ?_
    refine st (X.ldL rfl hB2 Tryd.underlying23 rfl rfl) rfl ?_
    refine gY (g := 13) rfl rfl rfl ?_
    refine st (X.lenL rfl rfl Tryd.underlying23) rfl ?_
    refine gY (g := 13) rfl rfl rfl ?_
    refine st (X.fa fa32_2 rfl) rfl ?_
    refine gY (g := 13) rfl rfl rfl ?_
    refine st (X.ldL rfl hB3 Tryd.underlying23 rfl rfl) rfl ?_
    refine gY (g := 13) rfl rfl rfl ?_
    refine st (X.lenL rfl rfl Tryd.underlying23) rfl ?_
    refine gY (g := 13) rfl rfl rfl ?_
    refine st (X.neq rfl rfl) rfl ?_
    refine st (X.pickF rfl rfl) rfl ?_
    refine sb rfl rfl (fun h22 => ?_) (fun h22 => ?_)
    · first | replace h22 := of_decide_eq_true h22 | replace h22 := of_decide_eq_false (notT h22) | replace h22 := notT h22 | skip
      refine gN (g := 22) rfl rfl rfl rfl ?_
      refine gN (g := 22) rfl rfl rfl rfl ?_
      refine gN (g := 22) rfl rfl rfl rfl ?_
      refine gN (g := 22) rfl rfl rfl rfl ?_
      refine gN (g := 22) rfl rfl rfl rfl ?_
      refine gN (g := 22) rfl rfl rfl rfl ?_
      refine gN (g := 22) rfl rfl rfl rfl ?_
      refine st (X.pickT rfl rfl) rfl ?_
      refine Wn ?_
      refine tN ?_
      refine W_yes rfl (rfl) ?_
      refine W_rs ?_
      refine sa rfl rfl ?_
      refine Wn ?_
      refine tN ?_
      refine W_ret (tR ?_)
      refine (rT rfl rfl ⟨?_, hbw⟩).1
      rw [show alike a b = false from decide_eq_false (fun h => by obtain ⟨q1, q2, q3⟩ := h; have e2 := congrArg List.length q2; have e3 := congrArg List.length q3; omega)]
    · first | replace h22 := of_decide_eq_false h22 | replace h22 := of_decide_eq_true (notF h22) | replace h22 := notF h22 | skip
      refine gY (g := 22) rfl rfl rfl ?_
      refine st (X.fa fa32_3 rfl) rfl ?_
      refine gY (g := 22) rfl rfl rfl ?_
      refine st (X.ldL rfl hB2 Tryd.underlying30 rfl rfl) rfl ?_
      refine gY (g := 22) rfl rfl rfl ?_
      refine st (X.lenL rfl rfl Tryd.underlying30) rfl ?_
      refine gY (g := 22) rfl rfl rfl ?_
      refine st (X.fa fa32_3 rfl) rfl ?_
      refine gY (g := 22) rfl rfl rfl ?_
      refine st (X.ldL rfl hB3 Tryd.underlying30 rfl rfl) rfl ?_
      refine gY (g := 22) rfl rfl rfl ?_
      refine st (X.lenL rfl rfl Tryd.underlying30) rfl ?_
      refine gY (g := 22) rfl rfl rfl ?_
      refine st (X.neq rfl rfl) rfl ?_
      refine st (X.pickF rfl rfl) rfl ?_
      refine Wn ?_
      refine tN ?_
      refine W_if rfl (fun h30 => ?_) (fun h30 => ?_)
      · first | replace h30 := of_decide_eq_true h30 | replace h30 := of_decide_eq_false (notT h30) | replace h30 := notT h30 | skip
        refine W_rs ?_
        refine sa rfl rfl ?_
        refine Wn ?_
        refine tN ?_
        refine W_ret (tR ?_)
        refine (rT rfl rfl ⟨?_, hbw⟩).1
        rw [show alike a b = false from decide_eq_false (fun h => by obtain ⟨q1, q2, q3⟩ := h; have e2 := congrArg List.length q2; have e3 := congrArg List.length q3; omega)]
      · first | replace h30 := of_decide_eq_false h30 | replace h30 := of_decide_eq_true (notF h30) | replace h30 := notF h30 | skip
        refine W_skip ?_
        refine tN ?_
        refine W_seq ?_
        refine W_rs ?_
        refine sa rfl rfl ?_
        refine Wn ?_
        refine tN ?_
        refine W_block ?_
        refine W_lp (fun nw3_ lw3_ w3 => ∃ j : Nat, nw3_ = a.cols.length - j ∧ lw3_ = ([(2, .pointer (some ⟨g2, 0, none⟩)), (3, .pointer (some ⟨g3, 0, none⟩)), (5, .int .i64 j)] : Env) ∧ (j ≤ a.cols.length) ∧ (a.cols.take j = b.cols.take j) ∧ (Blk w3 g2 32 #[.int .i64 a.id, .int .i64 a.rows, .slice ac a.cols.length cc, .slice as_ a.strs.length cs]) ∧ (Blk w3 g3 32 #[.int .i64 b.id, .int .i64 b.rows, .slice bc b.cols.length dc, .slice bs_ b.strs.length ds_]) ∧ (Below w.heap.size w w3)) _ ⟨_, ⟨0, rfl, rfl, by omega, rfl, hB2, hB3, hbw⟩, ⟨rfl, rfl, rfl, trivial⟩⟩ ?_
        clear hB2 hB3 hbw
        rintro nw3_ lw3_ w3 ⟨j, rfl, rfl, hj, hq, hB2, hB3, hbw⟩
        have hz_w3 := hbw.size
        have hlt_hB2_w3 := hB2.lt
        have hlt_hB3_w3 := hB3.lt
        refine W_seq ?_
        refine W_rs ?_
        refine sm rfl rfl ?_
        refine st (X.fa fa32_2 rfl) rfl ?_
        refine st (X.ldL rfl hB2 Tryd.underlying23 rfl rfl) rfl ?_
        refine st (X.lenL rfl rfl Tryd.underlying23) rfl ?_
        refine st (X.lss rfl rfl) rfl ?_
        refine Wn ?_
        refine tN ?_
        refine W_if rfl (fun h35 => ?_) (fun h35 => ?_)
        · first | replace h35 := of_decide_eq_true h35 | replace h35 := of_decide_eq_false (notT h35) | replace h35 := notT h35 | skip
          obtain ⟨x, hx⟩ : ∃ x, a.cols[j]? = some x := ⟨_, List.getElem?_eq_getElem (by omega)⟩
          obtain ⟨y, hy⟩ : ∃ y, b.cols[j]? = some y := ⟨_, List.getElem?_eq_getElem (by omega)⟩
          obtain ⟨q1, o1, c', hv, hq1⟩ := (hc.1.bel hbw).some_ (by omega)
          injection hv with e1 _ e3
          subst e1 e3
          obtain ⟨q2, o2, c', hv, hq2⟩ := (kc.1.bel hbw).some_ (by omega)
          injection hv with e1 _ e3
          subst e1 e3
          refine W_skip ?_
          refine tN ?_
          refine W_seq ?_
          refine W_block ?_
          refine W_drsN (fun W_ => Blk W_ g2 32 #[.int .i64 a.id, .int .i64 a.rows, .slice (some ⟨q1, o1, none⟩) a.cols.length cc, .slice as_ a.strs.length cs] ∧ Blk W_ g3 32 #[.int .i64 b.id, .int .i64 b.rows, .slice (some ⟨q2, o2, none⟩) b.cols.length dc, .slice bs_ b.strs.length ds_] ∧ W_.rangeAt q1 (o1 + j * 3) x.cells ∧ W_.rangeAt q2 (o2 + j * 3) y.cells) [0, 1, 2, 3, 4, 5, 6, 7, 8, 9, 10] [true, true, true, true, true, true, true, true, true, true, true] (by kernel_rfl) (by kernel_rfl) (⟨hB2.drew, hB3.drew, (hc.bel (bdrew hbw)).range hx, (kc.bel (bdrew hbw)).range hy⟩) ?_
          obtain ⟨w4, hw_⟩ : ∃ w4 : World, w4 = World.drew w3 := ⟨_, rfl⟩
          rw [← hw_]
          have hb : Below w3.heap.size w3 w4 := by rw [hw_]; exact bdrew (Below.refl _ _)
          clear hw_
          have hS := hb
          replace hbw := bthen hbw hb
          replace hB2 := hB2.bel hb
          replace hB3 := hB3.bel hb
          have hz_w4 := hb.size
          clear hb
          refine oY rfl (fun W_ hW_ => (X.fa fa32_2 rfl)) rfl ?_
          refine oY rfl (fun W_ hW_ => (X.ldL rfl hW_.1 Tryd.underlying23 rfl rfl)) rfl ?_
          refine oY rfl (fun W_ hW_ => (X.move rfl)) rfl ?_
          refine oY rfl (fun W_ hW_ => (X.idxA rfl rfl Tryd.underlying23 siz60 rfl (by omega))) rfl ?_
          refine oY rfl (fun W_ hW_ => (X.ldN (cs := x.cells) rfl Tryd.underlying60 rfl siz60 hW_.2.2.1)) rfl ?_
          refine oY rfl (fun W_ hW_ => (X.fa fa32_2 rfl)) rfl ?_
          refine oY rfl (fun W_ hW_ => (X.ldL rfl hW_.2.1 Tryd.underlying23 rfl rfl)) rfl ?_
          refine oY rfl (fun W_ hW_ => (X.move rfl)) rfl ?_
          refine oY rfl (fun W_ hW_ => (X.idxA rfl rfl Tryd.underlying23 siz60 rfl (by omega))) rfl ?_
          refine oY rfl (fun W_ hW_ => (X.ldN (cs := y.cells) rfl Tryd.underlying60 rfl siz60 hW_.2.2.2)) rfl ?_
          refine oY rfl (fun W_ hW_ => (X.neCol rfl rfl)) rfl ?_
          refine oN ?_
          refine nN ?_
          refine W_if rfl (fun h48 => ?_) (fun h48 => ?_)
          · first | replace h48 := of_decide_eq_true h48 | replace h48 := of_decide_eq_false (notT h48) | replace h48 := notT h48 | skip
            refine W_rs ?_
            refine sa rfl rfl ?_
            refine Wn ?_
            refine tN ?_
            refine W_ret (bR (tR (tR (bR (tR ?_)))))
            refine (rT rfl rfl ⟨?_, hbw⟩).1
            rw [show alike a b = false from decide_eq_false (fun h => at_ne hx hy h48 h.2.1)]
          · first | replace h48 := of_decide_eq_false h48 | replace h48 := of_decide_eq_true (notF h48) | replace h48 := notF h48 | skip
            refine W_skip ?_
            refine bN ?_
            refine tN ?_
            refine W_reg ?_
            refine sm rfl rfl ?_
            refine st (X.add64 rfl rfl (by omega)) rfl ?_
            refine sa rfl rfl ?_
            refine Wn ?_
            refine tN ⟨_, _, ?_, ⟨j + 1, rfl, rfl, by omega, by rw [take_next' hx, take_next' hy, hq, Classical.not_not.1 h48], hB2, hB3, hbw⟩, ⟨rfl, rfl, rfl, trivial⟩⟩
            omega
        · first | replace h35 := of_decide_eq_false h35 | replace h35 := of_decide_eq_true (notF h35) | replace h35 := notF h35 | skip
          obtain rfl : j = a.cols.length := by omega
          have hcols := take_all (by omega) hq
          refine W_exit (tE (tE (bH ?_)))
          refine tN ?_
          refine W_seq ?_
          refine W_rs ?_
          refine sa rfl rfl ?_
          refine Wn ?_
          refine tN ?_
          refine W_block ?_
          refine W_lp (fun nw5_ lw5_ w5 => ∃ i : Nat, nw5_ = a.strs.length - i ∧ lw5_ = ([(2, .pointer (some ⟨g2, 0, none⟩)), (3, .pointer (some ⟨g3, 0, none⟩)), (6, .int .i64 i)] : Env) ∧ (i ≤ a.strs.length) ∧ (a.strs.take i = b.strs.take i) ∧ (Blk w5 g2 32 #[.int .i64 a.id, .int .i64 a.rows, .slice ac a.cols.length cc, .slice as_ a.strs.length cs]) ∧ (Blk w5 g3 32 #[.int .i64 b.id, .int .i64 b.rows, .slice bc b.cols.length dc, .slice bs_ b.strs.length ds_]) ∧ (Below w.heap.size w w5)) _ ⟨_, ⟨0, rfl, rfl, by omega, rfl, hB2, hB3, hbw⟩, ⟨rfl, rfl, rfl, trivial⟩⟩ ?_
          clear hB2 hB3 hbw
          rintro nw5_ lw5_ w5 ⟨i, rfl, rfl, hi, hp, hB2, hB3, hbw⟩
          have hz_w5 := hbw.size
          have hlt_hB2_w5 := hB2.lt
          have hlt_hB3_w5 := hB3.lt
          refine W_seq ?_
          refine W_rs ?_
          refine sm rfl rfl ?_
          refine st (X.fa fa32_3 rfl) rfl ?_
          refine st (X.ldL rfl hB2 Tryd.underlying30 rfl rfl) rfl ?_
          refine st (X.lenL rfl rfl Tryd.underlying30) rfl ?_
          refine st (X.lss rfl rfl) rfl ?_
          refine Wn ?_
          refine tN ?_
          refine W_if rfl (fun h53 => ?_) (fun h53 => ?_)
          · first | replace h53 := of_decide_eq_true h53 | replace h53 := of_decide_eq_false (notT h53) | replace h53 := notT h53 | skip
            obtain ⟨l, hl⟩ : ∃ l, a.strs[i]? = some l := ⟨_, List.getElem?_eq_getElem (by omega)⟩
            obtain ⟨m, hm⟩ : ∃ m, b.strs[i]? = some m := ⟨_, List.getElem?_eq_getElem (by omega)⟩
            obtain ⟨u1, hux, hcx⟩ := hu i l hl
            obtain ⟨u2, huy, hcy⟩ := ku i m hm
            obtain ⟨q1, o1, c', hv, hq1⟩ := (hR.bel hbw).some_ (by omega)
            injection hv with e1 _ e3
            subst e1 e3
            obtain ⟨q2, o2, c', hv, hq2⟩ := (kR.bel hbw).some_ (by omega)
            injection hv with e1 _ e3
            subst e1 e3
            obtain ⟨a1, c1, rfl, hn1, hm1⟩ := hcx.shape
            obtain ⟨a2, c2, rfl, hn2, hm2⟩ := hcy.shape
            refine W_skip ?_
            refine tN ?_
            refine W_seq ?_
            refine W_block ?_
            refine W_seq ?_
            refine W_drsN (fun W_ => Blk W_ g2 32 #[.int .i64 a.id, .int .i64 a.rows, .slice ac a.cols.length cc, .slice (some ⟨q1, o1, none⟩) a.strs.length cs] ∧ Blk W_ g3 32 #[.int .i64 b.id, .int .i64 b.rows, .slice bc b.cols.length dc, .slice (some ⟨q2, o2, none⟩) b.strs.length ds_] ∧ W_.cell? ⟨q1, o1 + i, none⟩ = some (.slice a1 l.length c1) ∧ W_.cell? ⟨q2, o2 + i, none⟩ = some (.slice a2 m.length c2)) [0, 1, 2, 3, 4, 5, 6, 7, 8, 9, 10, 11, 12] [true, true, true, true, true, true, true, true, true, true, true, true, true] (by kernel_rfl) (by kernel_rfl) (⟨hB2.drew, hB3.drew, (hR.bel (bdrew hbw)).cellAt (by omega) hux, (kR.bel (bdrew hbw)).cellAt (by omega) huy⟩) ?_
            obtain ⟨w6, hw_⟩ : ∃ w6 : World, w6 = World.drew w5 := ⟨_, rfl⟩
            rw [← hw_]
            have hb : Below w5.heap.size w5 w6 := by rw [hw_]; exact bdrew (Below.refl _ _)
            clear hw_
            have hS := hb
            replace hbw := bthen hbw hb
            replace hB2 := hB2.bel hb
            replace hB3 := hB3.bel hb
            have hz_w6 := hb.size
            clear hb
            refine oY rfl (fun W_ hW_ => (X.fa fa32_3 rfl)) rfl ?_
            refine oY rfl (fun W_ hW_ => (X.ldL rfl hW_.1 Tryd.underlying30 rfl rfl)) rfl ?_
            refine oY rfl (fun W_ hW_ => (X.move rfl)) rfl ?_
            refine oY rfl (fun W_ hW_ => (X.idxA rfl rfl Tryd.underlying30 siz67 rfl (by omega))) rfl ?_
            refine oY rfl (fun W_ hW_ => (X.ld rfl Tryd.underlying67 rfl (by rw [Nat.mul_one]; exact hW_.2.2.1))) rfl ?_
            refine oY rfl (fun W_ hW_ => (X.lenL rfl rfl Tryd.underlying67)) rfl ?_
            refine oY rfl (fun W_ hW_ => (X.fa fa32_3 rfl)) rfl ?_
            refine oY rfl (fun W_ hW_ => (X.ldL rfl hW_.2.1 Tryd.underlying30 rfl rfl)) rfl ?_
            refine oY rfl (fun W_ hW_ => (X.move rfl)) rfl ?_
            refine oY rfl (fun W_ hW_ => (X.idxA rfl rfl Tryd.underlying30 siz67 rfl (by omega))) rfl ?_
            refine oY rfl (fun W_ hW_ => (X.ld rfl Tryd.underlying67 rfl (by rw [Nat.mul_one]; exact hW_.2.2.2))) rfl ?_
            refine oY rfl (fun W_ hW_ => (X.lenL rfl rfl Tryd.underlying67)) rfl ?_
            refine oY rfl (fun W_ hW_ => (X.neq rfl rfl)) rfl ?_
            refine oN ?_
            refine nN ?_
            refine W_if rfl (fun h68 => ?_) (fun h68 => ?_)
            · first | replace h68 := of_decide_eq_true h68 | replace h68 := of_decide_eq_false (notT h68) | replace h68 := notT h68 | skip
              refine W_rs ?_
              refine sa rfl rfl ?_
              refine Wn ?_
              refine tN ?_
              refine W_ret (tR (bR (tR (tR (bR (tR ?_))))))
              refine (rT rfl rfl ⟨?_, hbw⟩).1
              rw [show alike a b = false from decide_eq_false (fun h => at_ne hl hm (fun e => by subst e; exact h68 rfl) h.2.2)]
            · first | replace h68 := of_decide_eq_false h68 | replace h68 := of_decide_eq_true (notF h68) | replace h68 := notF h68 | skip
              refine W_skip ?_
              refine tN ?_
              refine W_rs ?_
              refine sa rfl rfl ?_
              refine Wn ?_
              refine tN ?_
              refine W_block ?_
              refine W_lp (fun nw7_ lw7_ w7 => ∃ k : Nat, nw7_ = l.length - k ∧ lw7_ = ([(2, .pointer (some ⟨g2, 0, none⟩)), (3, .pointer (some ⟨g3, 0, none⟩)), (6, .int .i64 i), (7, .int .i64 k)] : Env) ∧ (k ≤ l.length) ∧ (l.take k = m.take k) ∧ (Blk w7 g2 32 #[.int .i64 a.id, .int .i64 a.rows, .slice ac a.cols.length cc, .slice (some ⟨q1, o1, none⟩) a.strs.length cs]) ∧ (Blk w7 g3 32 #[.int .i64 b.id, .int .i64 b.rows, .slice bc b.cols.length dc, .slice (some ⟨q2, o2, none⟩) b.strs.length ds_]) ∧ (Below w.heap.size w w7)) _ ⟨_, ⟨0, rfl, rfl, by omega, rfl, hB2, hB3, hbw⟩, ⟨rfl, rfl, rfl, rfl, trivial⟩⟩ ?_
              clear hB2 hB3 hbw
              rintro nw7_ lw7_ w7 ⟨k, rfl, rfl, hk, hz, hB2, hB3, hbw⟩
              have hz_w7 := hbw.size
              have hlt_hB2_w7 := hB2.lt
              have hlt_hB3_w7 := hB3.lt
              refine W_seq ?_
              refine W_rs ?_
              refine sm rfl rfl ?_
              refine st (X.fa fa32_3 rfl) rfl ?_
              refine st (X.ldL rfl hB2 Tryd.underlying30 rfl rfl) rfl ?_
              refine sm rfl rfl ?_
              refine st (X.idxA rfl rfl Tryd.underlying30 siz67 rfl (by omega)) rfl ?_
              refine st (X.ld rfl Tryd.underlying67 rfl (by rw [Nat.mul_one]; exact (hR.bel hbw).cellAt (by omega) hux)) rfl ?_
              refine st (X.lenL rfl rfl Tryd.underlying67) rfl ?_
              refine st (X.lss rfl rfl) rfl ?_
              refine Wn ?_
              refine tN ?_
              refine W_if rfl (fun h76 => ?_) (fun h76 => ?_)
              · first | replace h76 := of_decide_eq_true h76 | replace h76 := of_decide_eq_false (notT h76) | replace h76 := notT h76 | skip
                obtain ⟨x, hx⟩ : ∃ x, l[k]? = some x := ⟨_, List.getElem?_eq_getElem (by omega)⟩
                obtain ⟨y, hy⟩ : ∃ y, m[k]? = some y := ⟨_, List.getElem?_eq_getElem (by omega)⟩
                obtain ⟨r1, p1, c', hv, hr1⟩ := (hcx.bel hbw).some_ (by omega)
                injection hv with e1 _ e3
                subst e1 e3
                obtain ⟨r2, p2, c', hv, hr2⟩ := (hcy.bel hbw).some_ (by omega)
                injection hv with e1 _ e3
                subst e1 e3
                refine W_skip ?_
                refine tN ?_
                refine W_seq ?_
                refine W_block ?_
                refine W_drsN (fun W_ => Blk W_ g2 32 #[.int .i64 a.id, .int .i64 a.rows, .slice ac a.cols.length cc, .slice (some ⟨q1, o1, none⟩) a.strs.length cs] ∧ Blk W_ g3 32 #[.int .i64 b.id, .int .i64 b.rows, .slice bc b.cols.length dc, .slice (some ⟨q2, o2, none⟩) b.strs.length ds_] ∧ W_.cell? ⟨q1, o1 + i, none⟩ = some (.slice (some ⟨r1, p1, none⟩) l.length c1) ∧ W_.cell? ⟨q2, o2 + i, none⟩ = some (.slice (some ⟨r2, p2, none⟩) m.length c2) ∧ W_.rangeAt r1 (p1 + k * 2) (rcells x) ∧ W_.rangeAt r2 (p2 + k * 2) (rcells y)) [0, 1, 2, 3, 4, 5, 6, 7, 8, 9, 10, 11, 12, 13, 14, 15, 16] [true, true, true, true, true, true, true, true, true, true, true, true, true, true, true, true, true] (by kernel_rfl) (by kernel_rfl) (⟨hB2.drew, hB3.drew, (hR.bel (bdrew hbw)).cellAt (by omega) hux, (kR.bel (bdrew hbw)).cellAt (by omega) huy, (hcx.bel (bdrew hbw)).rec_ (fun _ _ => rfl) hx, (hcy.bel (bdrew hbw)).rec_ (fun _ _ => rfl) hy⟩) ?_
                obtain ⟨w8, hw_⟩ : ∃ w8 : World, w8 = World.drew w7 := ⟨_, rfl⟩
                rw [← hw_]
                have hb : Below w7.heap.size w7 w8 := by rw [hw_]; exact bdrew (Below.refl _ _)
                clear hw_
                have hS := hb
                replace hbw := bthen hbw hb
                replace hB2 := hB2.bel hb
                replace hB3 := hB3.bel hb
                have hz_w8 := hb.size
                clear hb
                refine oY rfl (fun W_ hW_ => (X.fa fa32_3 rfl)) rfl ?_
                refine oY rfl (fun W_ hW_ => (X.ldL rfl hW_.1 Tryd.underlying30 rfl rfl)) rfl ?_
                refine oY rfl (fun W_ hW_ => (X.move rfl)) rfl ?_
                refine oY rfl (fun W_ hW_ => (X.idxA rfl rfl Tryd.underlying30 siz67 rfl (by omega))) rfl ?_
                refine oY rfl (fun W_ hW_ => (X.ld rfl Tryd.underlying67 rfl (by rw [Nat.mul_one]; exact hW_.2.2.1))) rfl ?_
                refine oY rfl (fun W_ hW_ => (X.move rfl)) rfl ?_
                refine oY rfl (fun W_ hW_ => (X.idxA rfl rfl Tryd.underlying67 siz69 rfl (by omega))) rfl ?_
                refine oY rfl (fun W_ hW_ => (X.ldN (cs := rcells x) rfl Tryd.underlying69 rfl siz69 hW_.2.2.2.2.1)) rfl ?_
                refine oY rfl (fun W_ hW_ => (X.fa fa32_3 rfl)) rfl ?_
                refine oY rfl (fun W_ hW_ => (X.ldL rfl hW_.2.1 Tryd.underlying30 rfl rfl)) rfl ?_
                refine oY rfl (fun W_ hW_ => (X.move rfl)) rfl ?_
                refine oY rfl (fun W_ hW_ => (X.idxA rfl rfl Tryd.underlying30 siz67 rfl (by omega))) rfl ?_
                refine oY rfl (fun W_ hW_ => (X.ld rfl Tryd.underlying67 rfl (by rw [Nat.mul_one]; exact hW_.2.2.2.1))) rfl ?_
                refine oY rfl (fun W_ hW_ => (X.move rfl)) rfl ?_
                refine oY rfl (fun W_ hW_ => (X.idxA rfl rfl Tryd.underlying67 siz69 rfl (by omega))) rfl ?_
                refine oY rfl (fun W_ hW_ => (X.ldN (cs := rcells y) rfl Tryd.underlying69 rfl siz69 hW_.2.2.2.2.2)) rfl ?_
                refine oY rfl (fun W_ hW_ => (X.neRChk rfl rfl)) rfl ?_
                refine oN ?_
                refine nN ?_
                refine W_if rfl (fun h95 => ?_) (fun h95 => ?_)
                · first | replace h95 := of_decide_eq_true h95 | replace h95 := of_decide_eq_false (notT h95) | replace h95 := notT h95 | skip
                  refine W_rs ?_
                  refine sa rfl rfl ?_
                  refine Wn ?_
                  refine tN ?_
                  refine W_ret (bR (tR (tR (bR (bR (tR (tR (bR (tR ?_)))))))))
                  refine (rT rfl rfl ⟨?_, hbw⟩).1
                  rw [show alike a b = false from decide_eq_false (fun h => at_ne hl hm (at_ne hx hy h95) h.2.2)]
                · first | replace h95 := of_decide_eq_false h95 | replace h95 := of_decide_eq_true (notF h95) | replace h95 := notF h95 | skip
                  refine W_skip ?_
                  refine bN ?_
                  refine tN ?_
                  refine W_reg ?_
                  refine sm rfl rfl ?_
                  refine st (X.add64 rfl rfl (by omega)) rfl ?_
                  refine sa rfl rfl ?_
                  refine Wn ?_
                  refine tN ⟨_, _, ?_, ⟨k + 1, rfl, rfl, by omega, by rw [take_next' hx, take_next' hy, hz, Classical.not_not.1 h95], hB2, hB3, hbw⟩, ⟨rfl, rfl, rfl, rfl, trivial⟩⟩
                  omega
              · first | replace h76 := of_decide_eq_false h76 | replace h76 := of_decide_eq_true (notF h76) | replace h76 := notF h76 | skip
                obtain rfl : k = l.length := by omega
                have hlm := take_all (by omega) hz
                refine W_exit (tE (tE (bH ?_)))
                refine bN ?_
                refine tN ?_
                refine W_reg ?_
                refine sm rfl rfl ?_
                refine st (X.add64 rfl rfl (by omega)) rfl ?_
                refine sa rfl rfl ?_
                refine Wn ?_
                refine tN ⟨_, _, ?_, ⟨i + 1, rfl, rfl, by omega, by rw [take_next' hl, take_next' hm, hp, hlm], hB2, hB3, hbw⟩, ⟨rfl, rfl, rfl, trivial⟩⟩
                omega
          · first | replace h53 := of_decide_eq_false h53 | replace h53 := of_decide_eq_true (notF h53) | replace h53 := notF h53 | skip
            refine W_exit (tE (tE (bH ?_)))
            refine tN ?_
            refine W_rs ?_
            refine sa rfl rfl ?_
            refine Wn ?_
            refine tN ?_
            refine W_ret ?_
            obtain rfl : i = a.strs.length := by omega
            have hstrs := take_all (by omega) hp
            refine (rT rfl rfl ⟨?_, hbw⟩).1
            rw [show alike a b = true from decide_eq_true ⟨by omega, hcols, hstrs⟩]
end Go.Proofs.YtnagmpnpgekhfaaDoor
namespace Go.Proofs.YtnagmpnpgekhfaaDoor
open Go.RowKit
theorem RefCheck_any (m : Man) (vc vr : Value) (w : World) (hc : ColsAt w vc m.cols) (hr : RStrsAt w vr m.strs) (hT : UT w) :
    Calls Tryd.prog 25 #[.agg #[.int .i64 m.id, .int .i64 m.rows, vc, vr]] w fun e w' => e = .returned (.int .i64 (manErr colsOk m)) ∧ Below w.heap.size w w' := by
  obtain ⟨ac, cc, rfl, hcn, hcc⟩ := hc.1.shape
  obtain ⟨us, hR, hu⟩ := hr
  obtain ⟨sa_, cs, rfl, hsn, hsc⟩ := hR.shape
  refine W_enter (args := [.agg #[.int .i64 m.id, .int .i64 m.rows, .slice ac m.cols.length cc, .slice sa_ m.strs.length cs]]) 83 Tryd.func25 rfl rfl rfl ?_
  refine W_sub [(0, .agg #[.int .i64 m.id, .int .i64 m.rows, .slice ac m.cols.length cc, .slice sa_ m.strs.length cs])] ?_ ⟨rfl, trivial⟩
  have hbw := Below.refl w.heap.size w
  refine W_rs ?_
  refine sboxA rfl rfl (fun g1 w1 hB1 hg1 hb hl1 => ?_)
  replace hbw := bthen hbw hb
  have hz_w1 := hb.size
  clear hb
  refine sa rfl rfl ?_
  refine Wn ?_
  refine tN ?_
  refine W_seq ?_
  refine W_rs ?_
  refine st (X.fa fa32_0 rfl) rfl ?_
  refine st (X.ldL rfl hB1 Tryd.underlying3 rfl rfl) rfl ?_
  refine st (X.lss rfl rfl) rfl ?_
  refine sb rfl rfl (fun h9 => ?_) (fun h9 => ?_)
  · first | replace h9 := of_decide_eq_true h9 | replace h9 := of_decide_eq_false (notT h9) | replace h9 := notT h9 | skip
    refine gN (g := 9) rfl rfl rfl rfl ?_
    refine gN (g := 9) rfl rfl rfl rfl ?_
    refine gN (g := 9) rfl rfl rfl rfl ?_
    refine st (X.pickT rfl rfl) rfl ?_
    refine sm rfl rfl ?_
    refine gN (g := 14) rfl rfl rfl rfl ?_
    refine gN (g := 14) rfl rfl rfl rfl ?_
    refine gN (g := 14) rfl rfl rfl rfl ?_
    refine st (X.pickT rfl rfl) rfl ?_
    refine Wn ?_
    refine tN ?_
    refine W_yes rfl (rfl) ?_
    refine W_rs ?_
    refine sa rfl rfl ?_
    refine Wn ?_
    refine tN ?_
    refine W_ret (tR ?_)
    refine (rT rfl rfl ⟨?_, hbw⟩).1
    unfold manErr; rw [if_pos (by omega)]
  · first | replace h9 := of_decide_eq_false h9 | replace h9 := of_decide_eq_true (notF h9) | replace h9 := notF h9 | skip
    refine gY (g := 9) rfl rfl rfl ?_
    refine st (X.fa fa32_0 rfl) rfl ?_
    refine gY (g := 9) rfl rfl rfl ?_
    refine st (X.ldL rfl hB1 Tryd.underlying3 rfl rfl) rfl ?_
    refine gY (g := 9) rfl rfl rfl ?_
    refine st (X.gtr rfl rfl) rfl ?_
    refine st (X.pickF rfl rfl) rfl ?_
    refine sb rfl rfl (fun h14 => ?_) (fun h14 => ?_)
    · first | replace h14 := of_decide_eq_true h14 | replace h14 := of_decide_eq_false (notT h14) | replace h14 := notT h14 | skip
      refine gN (g := 14) rfl rfl rfl rfl ?_
      refine gN (g := 14) rfl rfl rfl rfl ?_
      refine gN (g := 14) rfl rfl rfl rfl ?_
      refine st (X.pickT rfl rfl) rfl ?_
      refine Wn ?_
      refine tN ?_
      refine W_yes rfl (rfl) ?_
      refine W_rs ?_
      refine sa rfl rfl ?_
      refine Wn ?_
      refine tN ?_
      refine W_ret (tR ?_)
      refine (rT rfl rfl ⟨?_, hbw⟩).1
      unfold manErr; rw [if_pos (by omega)]
    · first | replace h14 := of_decide_eq_false h14 | replace h14 := of_decide_eq_true (notF h14) | replace h14 := notF h14 | skip
      refine gY (g := 14) rfl rfl rfl ?_
      refine st (X.fa fa32_1 rfl) rfl ?_
      refine gY (g := 14) rfl rfl rfl ?_
      refine st (X.ldL rfl hB1 Tryd.underlying3 rfl rfl) rfl ?_
      refine gY (g := 14) rfl rfl rfl ?_
      refine st (X.lss rfl rfl) rfl ?_
      refine st (X.pickF rfl rfl) rfl ?_
      refine Wn ?_
      refine tN ?_
      refine W_if rfl (fun h18 => ?_) (fun h18 => ?_)
      · first | replace h18 := of_decide_eq_true h18 | replace h18 := of_decide_eq_false (notT h18) | replace h18 := notT h18 | skip
        refine W_rs ?_
        refine sa rfl rfl ?_
        refine Wn ?_
        refine tN ?_
        refine W_ret (tR ?_)
        refine (rT rfl rfl ⟨?_, hbw⟩).1
        unfold manErr; rw [if_pos (by omega)]
      · first | replace h18 := of_decide_eq_false h18 | replace h18 := of_decide_eq_true (notF h18) | replace h18 := notF h18 | skip
        refine W_skip ?_
        refine tN ?_
        refine W_seq ?_
        refine W_rs ?_
        refine st (X.fa fa32_1 rfl) rfl ?_
        refine st (X.ldL rfl hB1 Tryd.underlying3 rfl rfl) rfl ?_
        refine st (X.gtr rfl rfl) rfl ?_
        refine Wn ?_
        refine tN ?_
        refine W_if rfl (fun h21 => ?_) (fun h21 => ?_)
        · first | replace h21 := of_decide_eq_true h21 | replace h21 := of_decide_eq_false (notT h21) | replace h21 := notT h21 | skip
          refine W_rs ?_
          refine sa rfl rfl ?_
          refine Wn ?_
          refine tN ?_
          refine W_ret (tR ?_)
          refine (rT rfl rfl ⟨?_, hbw⟩).1
          unfold manErr; rw [if_neg (by omega), if_pos (by omega)]
        · first | replace h21 := of_decide_eq_false h21 | replace h21 := of_decide_eq_true (notF h21) | replace h21 := notF h21 | skip
          refine W_skip ?_
          refine tN ?_
          refine W_seq ?_
          refine W_rs ?_
          refine st (X.fa fa32_2 rfl) rfl ?_
          refine st (X.ldL rfl hB1 Tryd.underlying23 rfl rfl) rfl ?_
          refine sc _ Tryd.func44 rfl (by kernel_rfl) rfl rfl ((RefColumns_any _ m.cols _ (hc.bel hbw) (hT.bel hbw)).mono ?_)
          rintro e_ w2 ⟨rfl, hb⟩
          refine cR ?_
          replace hbw := bthen hbw hb
          replace hB1 := hB1.bel hb
          have hz_w2 := hb.size
          clear hb
          refine st (X.not rfl) rfl ?_
          refine Wn ?_
          refine tN ?_
          refine W_if rfl (fun h25 => ?_) (fun h25 => ?_)
          · first | replace h25 := of_decide_eq_true h25 | replace h25 := of_decide_eq_false (notT h25) | replace h25 := notT h25 | skip
            refine W_rs ?_
            refine sa rfl rfl ?_
            refine Wn ?_
            refine tN ?_
            refine W_ret (tR ?_)
            refine (rT rfl rfl ⟨?_, hbw⟩).1
            unfold manErr; rw [if_neg (by omega), if_neg (by omega), if_pos (by simp [h25])]
          · first | replace h25 := of_decide_eq_false h25 | replace h25 := of_decide_eq_true (notF h25) | replace h25 := notF h25 | skip
            refine W_skip ?_
            refine tN ?_
            refine W_seq ?_
            refine W_rs ?_
            refine st (X.fa fa32_3 rfl) rfl ?_
            refine st (X.ldL rfl hB1 Tryd.underlying30 rfl rfl) rfl ?_
            refine st (X.lenL rfl rfl Tryd.underlying30) rfl ?_
            refine st (X.fa fa32_2 rfl) rfl ?_
            refine st (X.ldL rfl hB1 Tryd.underlying23 rfl rfl) rfl ?_
            refine st (X.lenL rfl rfl Tryd.underlying23) rfl ?_
            refine st (X.neq rfl rfl) rfl ?_
            refine Wn ?_
            refine tN ?_
            refine W_if rfl (fun h32 => ?_) (fun h32 => ?_)
            · first | replace h32 := of_decide_eq_true h32 | replace h32 := of_decide_eq_false (notT h32) | replace h32 := notT h32 | skip
              refine W_rs ?_
              refine sa rfl rfl ?_
              refine Wn ?_
              refine tN ?_
              refine W_ret (tR ?_)
              refine (rT rfl rfl ⟨?_, hbw⟩).1
              unfold manErr; rw [if_neg (by omega), if_neg (by omega), if_neg (by simp [h25]), if_pos (by omega)]
            · first | replace h32 := of_decide_eq_false h32 | replace h32 := of_decide_eq_true (notF h32) | replace h32 := notF h32 | skip
              refine W_skip ?_
              refine tN ?_
              refine W_seq ?_
              refine W_rs ?_
              refine sa rfl rfl ?_
              refine Wn ?_
              refine tN ?_
              refine W_block ?_
              refine W_lp (fun nw3_ lw3_ w3 => ∃ j : Nat, nw3_ = m.strs.length - j ∧ lw3_ = ([(1, .pointer (some ⟨g1, 0, none⟩)), (3, .int .i64 j)] : Env) ∧ (j ≤ m.strs.length) ∧ (manErr colsOk m = strsErr (m.strs.drop j)) ∧ (Blk w3 g1 32 #[.int .i64 m.id, .int .i64 m.rows, .slice ac m.cols.length cc, .slice sa_ m.strs.length cs]) ∧ (Below w.heap.size w w3)) _ ⟨_, ⟨0, rfl, rfl, by omega, by unfold manErr; rw [if_neg (by omega), if_neg (by omega), if_neg (by simp [h25]), if_neg (by omega)]; rfl, hB1, hbw⟩, ⟨rfl, rfl, trivial⟩⟩ ?_
              clear hB1 hbw
              rintro nw3_ lw3_ w3 ⟨j, rfl, rfl, hj, he, hB1, hbw⟩
              have hz_w3 := hbw.size
              have hlt_hB1_w3 := hB1.lt
              refine W_seq ?_
              refine W_rs ?_
              refine sm rfl rfl ?_
              refine st (X.fa fa32_3 rfl) rfl ?_
              refine st (X.ldL rfl hB1 Tryd.underlying30 rfl rfl) rfl ?_
              refine st (X.lenL rfl rfl Tryd.underlying30) rfl ?_
              refine st (X.lss rfl rfl) rfl ?_
              refine Wn ?_
              refine tN ?_
              refine W_if rfl (fun h37 => ?_) (fun h37 => ?_)
              · first | replace h37 := of_decide_eq_true h37 | replace h37 := of_decide_eq_false (notT h37) | replace h37 := notT h37 | skip
                obtain ⟨l, hl⟩ : ∃ l, m.strs[j]? = some l := ⟨_, List.getElem?_eq_getElem (by omega)⟩
                obtain ⟨u, hux, hcu⟩ := hu j l hl
                obtain ⟨gs, os_, c', hv, hgs⟩ := (hR.bel hbw).some_ (by omega)
                injection hv with e1 _ e3
                subst e1 e3
                obtain ⟨au, cu, rfl, hun, huc⟩ := hcu.shape
                have hn0 := strsErr_at m.strs j l hl
                refine W_skip ?_
                refine tN ?_
                refine W_seq ?_
                refine W_block ?_
                refine W_rs ?_
                refine st (X.fa fa32_3 rfl) rfl ?_
                refine st (X.ldL rfl hB1 Tryd.underlying30 rfl rfl) rfl ?_
                refine sm rfl rfl ?_
                refine st (X.idxA rfl rfl Tryd.underlying30 siz67 rfl (by omega)) rfl ?_
                refine st (X.ld rfl Tryd.underlying67 rfl (by rw [Nat.mul_one]; exact (hR.bel hbw).cellAt (by omega) hux)) rfl ?_
                refine sa rfl rfl ?_
                refine Wn ?_
                refine tN ?_
                refine W_seq ?_
                refine W_rs ?_
                refine sm rfl rfl ?_
                refine st (X.lenL rfl rfl Tryd.underlying67) rfl ?_
                refine st (X.gtr rfl rfl) rfl ?_
                refine Wn ?_
                refine tN ?_
                refine W_if rfl (fun h47 => ?_) (fun h47 => ?_)
                · first | replace h47 := of_decide_eq_true h47 | replace h47 := of_decide_eq_false (notT h47) | replace h47 := notT h47 | skip
                  refine W_rs ?_
                  refine sa rfl rfl ?_
                  refine Wn ?_
                  refine tN ?_
                  refine W_ret (tR (bR (tR (tR (bR (tR ?_))))))
                  refine (rT rfl rfl ⟨?_, hbw⟩).1
                  have h31 : strErr l = 31 := by unfold strErr; rw [if_pos (by omega)]
                  rw [he, hn0, h31, if_neg (by decide)]
                · first | replace h47 := of_decide_eq_false h47 | replace h47 := of_decide_eq_true (notF h47) | replace h47 := notF h47 | skip
                  refine W_skip ?_
                  refine tN ?_
                  refine W_rs ?_
                  refine sa rfl rfl ?_
                  refine Wn ?_
                  refine tN ?_
                  refine W_block ?_
                  refine W_lp (fun nw4_ lw4_ w4 => ∃ k : Nat, nw4_ = l.length - k ∧ lw4_ = ([(1, .pointer (some ⟨g1, 0, none⟩)), (3, .int .i64 j), (4, .slice au l.length cu), (5, .int .i64 k)] : Env) ∧ (k ≤ l.length) ∧ (strErr l = if strBad (l.drop k) then 1 else 0) ∧ (Blk w4 g1 32 #[.int .i64 m.id, .int .i64 m.rows, .slice ac m.cols.length cc, .slice (some ⟨gs, os_, none⟩) m.strs.length cs]) ∧ (Below w.heap.size w w4)) _ ⟨_, ⟨0, rfl, rfl, by omega, by unfold strErr; rw [if_neg (by omega)]; rfl, hB1, hbw⟩, ⟨rfl, rfl, rfl, rfl, trivial⟩⟩ ?_
                  clear hB1 hbw
                  rintro nw4_ lw4_ w4 ⟨k, rfl, rfl, hk, hse, hB1, hbw⟩
                  have hz_w4 := hbw.size
                  have hlt_hB1_w4 := hB1.lt
                  refine W_seq ?_
                  refine W_rs ?_
                  refine sm rfl rfl ?_
                  refine sm rfl rfl ?_
                  refine st (X.lenL rfl rfl Tryd.underlying67) rfl ?_
                  refine st (X.lss rfl rfl) rfl ?_
                  refine Wn ?_
                  refine tN ?_
                  refine W_if rfl (fun h51 => ?_) (fun h51 => ?_)
                  · first | replace h51 := of_decide_eq_true h51 | replace h51 := of_decide_eq_false (notT h51) | replace h51 := notT h51 | skip
                    obtain ⟨x, hx⟩ : ∃ x, l[k]? = some x := ⟨_, List.getElem?_eq_getElem (by omega)⟩
                    obtain ⟨gu, ou, c', hv, hgu⟩ := (hcu.bel hbw).some_ (by omega)
                    injection hv with e1 _ e3
                    subst e1 e3
                    have hrg := (hcu.bel hbw).rec_ (fun _ _ => rfl) hx
                    have hb0 := strBad_at l k x hx
                    refine W_skip ?_
                    refine tN ?_
                    refine W_seq ?_
                    refine W_block ?_
                    refine W_rs ?_
                    refine sm rfl rfl ?_
                    refine sm rfl rfl ?_
                    refine st (X.idxA rfl rfl Tryd.underlying67 siz69 rfl (by omega)) rfl ?_
                    refine st (X.fa fa69_1 rfl) rfl ?_
                    refine st (X.ld rfl Tryd.underlying3 rfl (hrg 1 _ rfl)) rfl ?_
                    refine st (X.lss rfl rfl) rfl ?_
                    refine sb rfl rfl (fun h60 => ?_) (fun h60 => ?_)
                    · first | replace h60 := of_decide_eq_true h60 | replace h60 := of_decide_eq_false (notT h60) | replace h60 := notT h60 | skip
                      refine gN (g := 60) rfl rfl rfl rfl ?_
                      refine gN (g := 60) rfl rfl rfl rfl ?_
                      refine gN (g := 60) rfl rfl rfl rfl ?_
                      refine gN (g := 60) rfl rfl rfl rfl ?_
                      refine gN (g := 60) rfl rfl rfl rfl ?_
                      refine gN (g := 60) rfl rfl rfl rfl ?_
                      refine st (X.pickT rfl rfl) rfl ?_
                      refine sm rfl rfl ?_
                      refine gN (g := 68) rfl rfl rfl rfl ?_
                      refine gN (g := 68) rfl rfl rfl rfl ?_
                      refine gN (g := 68) rfl rfl rfl rfl ?_
                      refine gN (g := 68) rfl rfl rfl rfl ?_
                      refine gN (g := 68) rfl rfl rfl rfl ?_
                      refine gN (g := 68) rfl rfl rfl rfl ?_
                      refine gN (g := 68) rfl rfl rfl rfl ?_
                      refine gU (g := 75) rfl rfl rfl rfl ?_
                      refine gU (g := 75) rfl rfl rfl rfl ?_
                      refine gU (g := 75) rfl rfl rfl rfl ?_
                      refine gU (g := 75) rfl rfl rfl rfl ?_
                      refine gU (g := 75) rfl rfl rfl rfl ?_
                      refine gN (g := 68) rfl rfl rfl rfl ?_
                      refine st (X.pickT rfl rfl) rfl ?_
                      refine Wn ?_
                      refine tN ?_
                      refine W_yes rfl (rfl) ?_
                      refine W_rs ?_
                      refine sa rfl rfl ?_
                      refine Wn ?_
                      refine tN ?_
                      refine W_ret (bR (tR (tR (bR (bR (tR (tR (bR (tR ?_)))))))))
                      refine (rT rfl rfl ⟨?_, hbw⟩).1
                      have h1 : strErr l = 1 := by rw [hse, hb0, show chkBad x (decide (k + 1 < l.length)) = true from by unfold chkBad; simp; omega]; simp
                      rw [he, hn0, h1, if_neg (by decide)]
                    · first | replace h60 := of_decide_eq_false h60 | replace h60 := of_decide_eq_true (notF h60) | replace h60 := notF h60 | skip
                      refine gY (g := 60) rfl rfl rfl ?_
                      refine sm rfl rfl ?_
                      refine gY (g := 60) rfl rfl rfl ?_
                      refine sm rfl rfl ?_
                      refine gY (g := 60) rfl rfl rfl ?_
                      refine st (X.idxA rfl rfl Tryd.underlying67 siz69 rfl (by omega)) rfl ?_
                      refine gY (g := 60) rfl rfl rfl ?_
                      refine st (X.fa fa69_1 rfl) rfl ?_
                      refine gY (g := 60) rfl rfl rfl ?_
                      refine st (X.ld rfl Tryd.underlying3 rfl (hrg 1 _ rfl)) rfl ?_
                      refine gY (g := 60) rfl rfl rfl ?_
                      refine st (X.gtr rfl rfl) rfl ?_
                      refine st (X.pickF rfl rfl) rfl ?_
                      refine sb rfl rfl (fun h68 => ?_) (fun h68 => ?_)
                      · first | replace h68 := of_decide_eq_true h68 | replace h68 := of_decide_eq_false (notT h68) | replace h68 := notT h68 | skip
                        refine gN (g := 68) rfl rfl rfl rfl ?_
                        refine gN (g := 68) rfl rfl rfl rfl ?_
                        refine gN (g := 68) rfl rfl rfl rfl ?_
                        refine gN (g := 68) rfl rfl rfl rfl ?_
                        refine gN (g := 68) rfl rfl rfl rfl ?_
                        refine gN (g := 68) rfl rfl rfl rfl ?_
                        refine gN (g := 68) rfl rfl rfl rfl ?_
                        refine gU (g := 75) rfl rfl rfl rfl ?_
                        refine gU (g := 75) rfl rfl rfl rfl ?_
                        refine gU (g := 75) rfl rfl rfl rfl ?_
                        refine gU (g := 75) rfl rfl rfl rfl ?_
                        refine gU (g := 75) rfl rfl rfl rfl ?_
                        refine gN (g := 68) rfl rfl rfl rfl ?_
                        refine st (X.pickT rfl rfl) rfl ?_
                        refine Wn ?_
                        refine tN ?_
                        refine W_yes rfl (rfl) ?_
                        refine W_rs ?_
                        refine sa rfl rfl ?_
                        refine Wn ?_
                        refine tN ?_
                        refine W_ret (bR (tR (tR (bR (bR (tR (tR (bR (tR ?_)))))))))
                        refine (rT rfl rfl ⟨?_, hbw⟩).1
                        have h1 : strErr l = 1 := by rw [hse, hb0, show chkBad x (decide (k + 1 < l.length)) = true from by unfold chkBad; simp; omega]; simp
                        rw [he, hn0, h1, if_neg (by decide)]
                      · first | replace h68 := of_decide_eq_false h68 | replace h68 := of_decide_eq_true (notF h68) | replace h68 := notF h68 | skip
                        refine gY (g := 68) rfl rfl rfl ?_
                        refine sm rfl rfl ?_
                        refine gY (g := 68) rfl rfl rfl ?_
                        refine sm rfl rfl ?_
                        refine gY (g := 68) rfl rfl rfl ?_
                        refine st (X.idxA rfl rfl Tryd.underlying67 siz69 rfl (by omega)) rfl ?_
                        refine gY (g := 68) rfl rfl rfl ?_
                        refine st (X.fa fa69_1 rfl) rfl ?_
                        refine gY (g := 68) rfl rfl rfl ?_
                        refine st (X.ld rfl Tryd.underlying3 rfl (hrg 1 _ rfl)) rfl ?_
                        refine gY (g := 68) rfl rfl rfl ?_
                        refine st (X.lss rfl rfl) rfl ?_
                        refine gY (g := 68) rfl rfl rfl ?_
                        refine sb rfl rfl (fun h75 => ?_) (fun h75 => ?_)
                        · first | replace h75 := of_decide_eq_true h75 | replace h75 := of_decide_eq_false (notT h75) | replace h75 := notT h75 | skip
                          refine gY (g := 75) rfl rfl rfl ?_
                          refine sm rfl rfl ?_
                          refine gY (g := 75) rfl rfl rfl ?_
                          refine st (X.add64 rfl rfl (by omega)) rfl ?_
                          refine gY (g := 75) rfl rfl rfl ?_
                          refine sm rfl rfl ?_
                          refine gY (g := 75) rfl rfl rfl ?_
                          refine st (X.lenL rfl rfl Tryd.underlying67) rfl ?_
                          refine gY (g := 75) rfl rfl rfl ?_
                          refine st (X.lss rfl rfl) rfl ?_
                          refine gY (g := 68) rfl rfl rfl ?_
                          refine st (X.pickT rfl rfl) rfl ?_
                          refine st (X.pickF rfl rfl) rfl ?_
                          refine Wn ?_
                          refine tN ?_
                          refine W_if rfl (fun h82 => ?_) (fun h82 => ?_)
                          · first | replace h82 := of_decide_eq_true h82 | replace h82 := of_decide_eq_false (notT h82) | replace h82 := notT h82 | skip
                            refine W_rs ?_
                            refine sa rfl rfl ?_
                            refine Wn ?_
                            refine tN ?_
                            refine W_ret (bR (tR (tR (bR (bR (tR (tR (bR (tR ?_)))))))))
                            refine (rT rfl rfl ⟨?_, hbw⟩).1
                            have h1 : strErr l = 1 := by rw [hse, hb0, show chkBad x (decide (k + 1 < l.length)) = true from by unfold chkBad; simp; omega]; simp
                            rw [he, hn0, h1, if_neg (by decide)]
                          · first | replace h82 := of_decide_eq_false h82 | replace h82 := of_decide_eq_true (notF h82) | replace h82 := notF h82 | skip
                            refine W_skip ?_
                            refine bN ?_
                            refine tN ?_
                            refine W_reg ?_
                            refine sm rfl rfl ?_
                            refine st (X.add64 rfl rfl (by omega)) rfl ?_
                            refine sa rfl rfl ?_
                            refine Wn ?_
                            refine tN ⟨_, _, ?_, ⟨k + 1, rfl, rfl, by omega, by rw [hse, hb0, show chkBad x (decide (k + 1 < l.length)) = false from by unfold chkBad; simp; omega]; simp, hB1, hbw⟩, ⟨rfl, rfl, rfl, rfl, trivial⟩⟩
                            omega
                        · first | replace h75 := of_decide_eq_false h75 | replace h75 := of_decide_eq_true (notF h75) | replace h75 := notF h75 | skip
                          refine gN (g := 75) rfl rfl rfl rfl ?_
                          refine gN (g := 75) rfl rfl rfl rfl ?_
                          refine gN (g := 75) rfl rfl rfl rfl ?_
                          refine gN (g := 75) rfl rfl rfl rfl ?_
                          refine gN (g := 75) rfl rfl rfl rfl ?_
                          refine gY (g := 68) rfl rfl rfl ?_
                          refine st (X.pickF rfl rfl) rfl ?_
                          refine st (X.pickF rfl rfl) rfl ?_
                          refine Wn ?_
                          refine tN ?_
                          refine W_no rfl (rfl) ?_
                          refine W_skip ?_
                          refine bN ?_
                          refine tN ?_
                          refine W_reg ?_
                          refine sm rfl rfl ?_
                          refine st (X.add64 rfl rfl (by omega)) rfl ?_
                          refine sa rfl rfl ?_
                          refine Wn ?_
                          refine tN ⟨_, _, ?_, ⟨k + 1, rfl, rfl, by omega, by rw [hse, hb0, show chkBad x (decide (k + 1 < l.length)) = false from by unfold chkBad; simp; omega]; simp, hB1, hbw⟩, ⟨rfl, rfl, rfl, rfl, trivial⟩⟩
                          omega
                  · first | replace h51 := of_decide_eq_false h51 | replace h51 := of_decide_eq_true (notF h51) | replace h51 := notF h51 | skip
                    have hs0 : strErr l = 0 := by rw [hse, List.drop_of_length_le (by omega)]; rfl
                    refine W_exit (tE (tE (bH ?_)))
                    refine bN ?_
                    refine tN ?_
                    refine W_reg ?_
                    refine sm rfl rfl ?_
                    refine st (X.add64 rfl rfl (by omega)) rfl ?_
                    refine sa rfl rfl ?_
                    refine Wn ?_
                    refine tN ⟨_, _, ?_, ⟨j + 1, rfl, rfl, by omega, by rw [he, hn0, if_pos hs0], hB1, hbw⟩, ⟨rfl, rfl, trivial⟩⟩
                    omega
              · first | replace h37 := of_decide_eq_false h37 | replace h37 := of_decide_eq_true (notF h37) | replace h37 := notF h37 | skip
                refine W_exit (tE (tE (bH ?_)))
                refine tN ?_
                refine W_rs ?_
                refine sa rfl rfl ?_
                refine Wn ?_
                refine tN ?_
                refine W_ret ?_
                refine (rT rfl rfl ⟨?_, hbw⟩).1
                rw [he, List.drop_of_length_le (by omega)]; rfl
end Go.Proofs.YtnagmpnpgekhfaaDoor
