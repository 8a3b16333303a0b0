/- armariumref06.Columns. -/
import Derived.Test.YtnagmpnpgekhfaaDoorSchema
namespace Go.Proofs.YtnagmpnpgekhfaaDoor
open Go.RowKit
theorem from_bad {l : List Col} {j : Nat} {x : Col} (hx : l[j]? = some x) (h : colOk x = false ∨ x.name ∈ (l.take j).map (·.name)) : colsFrom ((l.take j).map (·.name)) (l.drop j) = false := by
  rw [colsFrom_at l j x hx]
  rcases h with h | h
  · simp [h]
  · rw [show decide (x.name ∉ (l.take j).map (·.name)) = false from decide_eq_false (fun hn => hn h)]; simp
theorem RefColumns_any (v : Value) (l : List Col) (w : World) (h : ColsAt w v l) (hT : UT w) :
    Calls Tryd.prog 44 #[v] w fun e w' => e = .returned (.bool (colsOk l)) ∧ Below w.heap.size w w' := by
  obtain ⟨a, c, rfl, hn, hc⟩ := h.1.shape
  refine W_enter (args := [.slice a l.length c]) 75 Tryd.func44 rfl rfl rfl ?_
  refine W_sub [(0, .slice a l.length c)] ?_ ⟨rfl, trivial⟩
  have hbw := Below.refl w.heap.size w
  refine W_rs ?_
  refine sa rfl rfl ?_
  refine Wn ?_
  refine tN ?_
  refine W_seq ?_
  refine W_rs ?_
  refine sa rfl rfl ?_
  refine Wn ?_
  refine tN ?_
  refine W_block ?_
  refine W_lp (fun nw1_ lw1_ w1 => ∃ j : Nat, nw1_ = l.length - j ∧ lw1_ = ([(0, .slice a l.length c), (3, .int .i64 j)] : Env) ∧ (j ≤ l.length) ∧ (colsFrom [] l = colsFrom ((l.take j).map (·.name)) (l.drop j)) ∧ (Below w.heap.size w w1)) _ ⟨_, ⟨0, rfl, rfl, by omega, rfl, hbw⟩, ⟨rfl, rfl, trivial⟩⟩ ?_
  clear hbw
  rintro nw1_ lw1_ w1 ⟨j, rfl, rfl, hj, hf, hbw⟩
  have hz_w1 := hbw.size
  refine W_seq ?_
  refine W_rs ?_
  refine sm rfl rfl ?_
  refine sm rfl rfl ?_
  refine st (X.lenL rfl rfl Tryd.underlying23) rfl ?_
  refine st (X.lss rfl rfl) rfl ?_
  refine Wn ?_
  refine tN ?_
  refine W_if rfl (fun h8 => ?_) (fun h8 => ?_)
  · first | replace h8 := of_decide_eq_true h8 | replace h8 := of_decide_eq_false (notT h8) | replace h8 := notT h8 | skip
    obtain ⟨x, hx⟩ : ∃ x, l[j]? = some x := ⟨_, List.getElem?_eq_getElem (by omega)⟩
    obtain ⟨g, o, c', hv, hg⟩ := (h.1.bel hbw).some_ (by omega)
    injection hv with e1 _ e3
    subst e1 e3
    have hxn := h.2 x (List.mem_of_getElem? hx)
    refine W_skip ?_
    refine tN ?_
    refine W_seq ?_
    refine W_block ?_
    refine W_seq ?_
    refine W_rs ?_
    refine sa rfl rfl ?_
    refine Wn ?_
    refine tN ?_
    refine W_block ?_
    refine W_lp (fun nw2_ lw2_ w2 => ∃ k : Nat, nw2_ = j - k ∧ lw2_ = ([(0, .slice (some ⟨g, o, none⟩) l.length c), (3, .int .i64 j), (4, .int .i64 k)] : Env) ∧ (k ≤ j) ∧ (x.name ∉ (l.take k).map (·.name)) ∧ (Below w.heap.size w w2)) _ ⟨_, ⟨0, rfl, rfl, by omega, by simp, hbw⟩, ⟨rfl, rfl, rfl, trivial⟩⟩ ?_
    clear hbw
    rintro nw2_ lw2_ w2 ⟨k, rfl, rfl, hk, hno, hbw⟩
    have hz_w2 := hbw.size
    refine W_seq ?_
    refine W_rs ?_
    refine sm rfl rfl ?_
    refine sm rfl rfl ?_
    refine st (X.lss rfl rfl) rfl ?_
    refine Wn ?_
    refine tN ?_
    refine W_if rfl (fun h13 => ?_) (fun h13 => ?_)
    · first | replace h13 := of_decide_eq_true h13 | replace h13 := of_decide_eq_false (notT h13) | replace h13 := notT h13 | skip
      obtain ⟨y, hy⟩ : ∃ y, l[k]? = some y := ⟨_, List.getElem?_eq_getElem (by omega)⟩
      refine W_skip ?_
      refine tN ?_
      refine W_seq ?_
      refine W_block ?_
      refine W_drsN (fun W_ => W_.rangeAt g (o + j * 3) x.cells ∧ W_.rangeAt g (o + k * 3) y.cells) [0, 1, 2, 3, 4, 5, 6, 7, 8, 9, 10] [true, true, true, true, true, true, true, true, true, true, true] (by kernel_rfl) (by kernel_rfl) (⟨(h.bel (bdrew hbw)).range hx, (h.bel (bdrew hbw)).range hy⟩) ?_
      obtain ⟨w3, hw_⟩ : ∃ w3 : World, w3 = World.drew w2 := ⟨_, rfl⟩
      rw [← hw_]
      have hb : Below w2.heap.size w2 w3 := by rw [hw_]; exact bdrew (Below.refl _ _)
      clear hw_
      have hS := hb
      replace hbw := bthen hbw hb
      have hz_w3 := hb.size
      clear hb
      refine oY rfl (fun W_ hW_ => (X.move rfl)) rfl ?_
      refine oY rfl (fun W_ hW_ => (X.move rfl)) rfl ?_
      refine oY rfl (fun W_ hW_ => (X.idxA rfl rfl Tryd.underlying23 siz60 rfl (by omega))) rfl ?_
      refine oY rfl (fun W_ hW_ => (X.fa fa60_0 rfl)) rfl ?_
      refine oY rfl (fun W_ hW_ => (X.ld rfl Tryd.underlying9 rfl (hW_.1 0 _ rfl))) rfl ?_
      refine oY rfl (fun W_ hW_ => (X.move rfl)) rfl ?_
      refine oY rfl (fun W_ hW_ => (X.move rfl)) rfl ?_
      refine oY rfl (fun W_ hW_ => (X.idxA rfl rfl Tryd.underlying23 siz60 rfl (by omega))) rfl ?_
      refine oY rfl (fun W_ hW_ => (X.fa fa60_0 rfl)) rfl ?_
      refine oY rfl (fun W_ hW_ => (X.ld rfl Tryd.underlying9 rfl (hW_.2 0 _ rfl))) rfl ?_
      refine oY rfl (fun W_ hW_ => (X.eqS rfl rfl)) rfl ?_
      refine oN ?_
      refine nN ?_
      refine W_if rfl (fun h26 => ?_) (fun h26 => ?_)
      · first | replace h26 := of_decide_eq_true h26 | replace h26 := of_decide_eq_false (notT h26) | replace h26 := notT h26 | skip
        refine W_rs ?_
        refine sa rfl rfl ?_
        refine Wn ?_
        refine tN ?_
        refine W_ret (bR (tR (tR (bR (tR (bR (tR (tR (bR (tR ?_))))))))))
        refine (rT rfl rfl ⟨?_, hbw⟩).1
        rw [show colsOk l = false by unfold colsOk; rw [hf, from_bad hx (.inr (List.mem_map.2 ⟨y, List.mem_of_getElem? (i := k) (by rw [List.getElem?_take_of_lt (by omega)]; exact hy), h26.symm⟩))]; simp]
      · first | replace h26 := of_decide_eq_false h26 | replace h26 := of_decide_eq_true (notF h26) | replace h26 := notF h26 | skip
        refine W_skip ?_
        refine bN ?_
        refine tN ?_
        refine W_reg ?_
        refine sm rfl rfl ?_
        refine st (X.add64 rfl rfl (by omega)) rfl ?_
        refine sa rfl rfl ?_
        refine Wn ?_
        refine tN ⟨_, _, ?_, ⟨k + 1, rfl, rfl, by omega, by rw [take_next' hy, List.map_append, List.mem_append]; intro hq; rcases hq with hq | hq; exact hno hq; simp at hq; exact h26 hq, hbw⟩, ⟨rfl, rfl, rfl, trivial⟩⟩
        omega
    · first | replace h13 := of_decide_eq_false h13 | replace h13 := of_decide_eq_true (notF h13) | replace h13 := notF h13 | skip
      have hkj : k = j := by omega
      rw [hkj] at hno
      have hrg := (h.bel hbw).range hx
      refine W_exit (tE (tE (bH ?_)))
      refine tN ?_
      refine W_rs ?_
      refine sm rfl rfl ?_
      refine sm rfl rfl ?_
      refine st (X.idxA rfl rfl Tryd.underlying23 siz60 rfl (by omega)) rfl ?_
      refine st (X.fa fa60_0 rfl) rfl ?_
      refine st (X.ld rfl Tryd.underlying9 rfl (hrg 0 _ rfl)) rfl ?_
      refine st (X.eqS rfl rfl) rfl ?_
      refine sb rfl rfl (fun h33 => ?_) (fun h33 => ?_)
      · first | replace h33 := of_decide_eq_true h33 | replace h33 := of_decide_eq_false (notT h33) | replace h33 := notT h33 | skip
        refine gN (g := 33) rfl rfl rfl rfl ?_
        refine gN (g := 33) rfl rfl rfl rfl ?_
        refine gN (g := 33) rfl rfl rfl rfl ?_
        refine gN (g := 33) rfl rfl rfl rfl ?_
        refine gN (g := 33) rfl rfl rfl rfl ?_
        refine gN (g := 33) rfl rfl rfl rfl ?_
        refine gN (g := 33) rfl rfl rfl rfl ?_
        refine st (X.pickT rfl rfl) rfl ?_
        refine sm rfl rfl ?_
        refine gN (g := 42) rfl rfl rfl rfl ?_
        refine gN (g := 42) rfl rfl rfl rfl ?_
        refine gN (g := 42) rfl rfl rfl rfl ?_
        refine gN (g := 42) rfl rfl rfl rfl ?_
        refine gN (g := 42) rfl rfl rfl rfl ?_
        refine gN (g := 42) rfl rfl rfl rfl ?_
        refine gN (g := 42) rfl rfl rfl rfl ?_
        refine st (X.pickT rfl rfl) rfl ?_
        refine sm rfl rfl ?_
        refine gN (g := 51) rfl rfl rfl rfl ?_
        refine gN (g := 51) rfl rfl rfl rfl ?_
        refine gN (g := 51) rfl rfl rfl rfl ?_
        refine gN (g := 51) rfl rfl rfl rfl ?_
        refine gN (g := 51) rfl rfl rfl rfl ?_
        refine gN (g := 51) rfl rfl rfl rfl ?_
        refine st (X.pickT rfl rfl) rfl ?_
        refine sm rfl rfl ?_
        refine gN (g := 59) rfl rfl rfl rfl ?_
        refine gN (g := 59) rfl rfl rfl rfl ?_
        refine gN (g := 59) rfl rfl rfl rfl ?_
        refine gN (g := 59) rfl rfl rfl rfl ?_
        refine gN (g := 59) rfl rfl rfl rfl ?_
        refine gN (g := 59) rfl rfl rfl rfl ?_
        refine st (X.pickT rfl rfl) rfl ?_
        refine Wn ?_
        refine tN ?_
        refine W_yes rfl (rfl) ?_
        refine W_rs ?_
        refine sa rfl rfl ?_
        refine Wn ?_
        refine tN ?_
        refine W_ret (bR (tR (tR (bR (tR ?_)))))
        refine (rT rfl rfl ⟨?_, hbw⟩).1
        rw [show colsOk l = false by unfold colsOk; rw [hf, from_bad hx (.inl (by unfold colOk; simp [h33]))]; simp]
      · first | replace h33 := of_decide_eq_false h33 | replace h33 := of_decide_eq_true (notF h33) | replace h33 := notF h33 | skip
        refine gY (g := 33) rfl rfl rfl ?_
        refine sm rfl rfl ?_
        refine gY (g := 33) rfl rfl rfl ?_
        refine sm rfl rfl ?_
        refine gY (g := 33) rfl rfl rfl ?_
        refine st (X.idxA rfl rfl Tryd.underlying23 siz60 rfl (by omega)) rfl ?_
        refine gY (g := 33) rfl rfl rfl ?_
        refine st (X.fa fa60_0 rfl) rfl ?_
        refine gY (g := 33) rfl rfl rfl ?_
        refine st (X.ld rfl Tryd.underlying9 rfl (hrg 0 _ rfl)) rfl ?_
        refine gY (g := 33) rfl rfl rfl ?_
        refine st (X.lenS rfl rfl Tryd.underlying9) rfl ?_
        refine gY (g := 33) rfl rfl rfl ?_
        refine st (X.gtr rfl rfl) rfl ?_
        refine st (X.pickF rfl rfl) rfl ?_
        refine sb rfl rfl (fun h42 => ?_) (fun h42 => ?_)
        · first | replace h42 := of_decide_eq_true h42 | replace h42 := of_decide_eq_false (notT h42) | replace h42 := notT h42 | skip
          refine gN (g := 42) rfl rfl rfl rfl ?_
          refine gN (g := 42) rfl rfl rfl rfl ?_
          refine gN (g := 42) rfl rfl rfl rfl ?_
          refine gN (g := 42) rfl rfl rfl rfl ?_
          refine gN (g := 42) rfl rfl rfl rfl ?_
          refine gN (g := 42) rfl rfl rfl rfl ?_
          refine gN (g := 42) rfl rfl rfl rfl ?_
          refine st (X.pickT rfl rfl) rfl ?_
          refine sm rfl rfl ?_
          refine gN (g := 51) rfl rfl rfl rfl ?_
          refine gN (g := 51) rfl rfl rfl rfl ?_
          refine gN (g := 51) rfl rfl rfl rfl ?_
          refine gN (g := 51) rfl rfl rfl rfl ?_
          refine gN (g := 51) rfl rfl rfl rfl ?_
          refine gN (g := 51) rfl rfl rfl rfl ?_
          refine st (X.pickT rfl rfl) rfl ?_
          refine sm rfl rfl ?_
          refine gN (g := 59) rfl rfl rfl rfl ?_
          refine gN (g := 59) rfl rfl rfl rfl ?_
          refine gN (g := 59) rfl rfl rfl rfl ?_
          refine gN (g := 59) rfl rfl rfl rfl ?_
          refine gN (g := 59) rfl rfl rfl rfl ?_
          refine gN (g := 59) rfl rfl rfl rfl ?_
          refine st (X.pickT rfl rfl) rfl ?_
          refine Wn ?_
          refine tN ?_
          refine W_yes rfl (rfl) ?_
          refine W_rs ?_
          refine sa rfl rfl ?_
          refine Wn ?_
          refine tN ?_
          refine W_ret (bR (tR (tR (bR (tR ?_)))))
          refine (rT rfl rfl ⟨?_, hbw⟩).1
          rw [show colsOk l = false by unfold colsOk; rw [hf, from_bad hx (.inl (by unfold colOk; rw [show decide (x.name.length ≤ 64) = false from decide_eq_false (by omega)]; simp))]; simp]
        · first | replace h42 := of_decide_eq_false h42 | replace h42 := of_decide_eq_true (notF h42) | replace h42 := notF h42 | skip
          refine gY (g := 42) rfl rfl rfl ?_
          refine sm rfl rfl ?_
          refine gY (g := 42) rfl rfl rfl ?_
          refine sm rfl rfl ?_
          refine gY (g := 42) rfl rfl rfl ?_
          refine st (X.idxA rfl rfl Tryd.underlying23 siz60 rfl (by omega)) rfl ?_
          refine gY (g := 42) rfl rfl rfl ?_
          refine st (X.fa fa60_0 rfl) rfl ?_
          refine gY (g := 42) rfl rfl rfl ?_
          refine st (X.ld rfl Tryd.underlying9 rfl (hrg 0 _ rfl)) rfl ?_
          refine gY (g := 42) rfl rfl rfl ?_
          refine sc _ Tryd.func47 rfl (by kernel_rfl) rfl rfl ((valid_any x.name _ hxn (hT.bel hbw)).mono ?_)
          rintro e_ w4 ⟨rfl, hb⟩
          refine cR ?_
          replace hbw := bthen hbw hb
          have hz_w4 := hb.size
          clear hb
          replace hrg := (h.bel hbw).range hx
          refine gY (g := 42) rfl rfl rfl ?_
          refine st (X.not rfl) rfl ?_
          refine st (X.pickF rfl rfl) rfl ?_
          refine sb rfl rfl (fun h51 => ?_) (fun h51 => ?_)
          · first | replace h51 := of_decide_eq_true h51 | replace h51 := of_decide_eq_false (notT h51) | replace h51 := notT h51 | skip
            refine gN (g := 51) rfl rfl rfl rfl ?_
            refine gN (g := 51) rfl rfl rfl rfl ?_
            refine gN (g := 51) rfl rfl rfl rfl ?_
            refine gN (g := 51) rfl rfl rfl rfl ?_
            refine gN (g := 51) rfl rfl rfl rfl ?_
            refine gN (g := 51) rfl rfl rfl rfl ?_
            refine st (X.pickT rfl rfl) rfl ?_
            refine sm rfl rfl ?_
            refine gN (g := 59) rfl rfl rfl rfl ?_
            refine gN (g := 59) rfl rfl rfl rfl ?_
            refine gN (g := 59) rfl rfl rfl rfl ?_
            refine gN (g := 59) rfl rfl rfl rfl ?_
            refine gN (g := 59) rfl rfl rfl rfl ?_
            refine gN (g := 59) rfl rfl rfl rfl ?_
            refine st (X.pickT rfl rfl) rfl ?_
            refine Wn ?_
            refine tN ?_
            refine W_yes rfl (rfl) ?_
            refine W_rs ?_
            refine sa rfl rfl ?_
            refine Wn ?_
            refine tN ?_
            refine W_ret (bR (tR (tR (bR (tR ?_)))))
            refine (rT rfl rfl ⟨?_, hbw⟩).1
            rw [show colsOk l = false by unfold colsOk; rw [hf, from_bad hx (.inl (by unfold colOk; simp [h51]))]; simp]
          · first | replace h51 := of_decide_eq_false h51 | replace h51 := of_decide_eq_true (notF h51) | replace h51 := notF h51 | skip
            refine gY (g := 51) rfl rfl rfl ?_
            refine sm rfl rfl ?_
            refine gY (g := 51) rfl rfl rfl ?_
            refine sm rfl rfl ?_
            refine gY (g := 51) rfl rfl rfl ?_
            refine st (X.idxA rfl rfl Tryd.underlying23 siz60 rfl (by omega)) rfl ?_
            refine gY (g := 51) rfl rfl rfl ?_
            refine st (X.fa fa60_1 rfl) rfl ?_
            refine gY (g := 51) rfl rfl rfl ?_
            refine st (X.ld rfl Tryd.underlying3 rfl (hrg 1 _ rfl)) rfl ?_
            refine gY (g := 51) rfl rfl rfl ?_
            refine st (X.lss rfl rfl) rfl ?_
            refine st (X.pickF rfl rfl) rfl ?_
            refine sb rfl rfl (fun h59 => ?_) (fun h59 => ?_)
            · first | replace h59 := of_decide_eq_true h59 | replace h59 := of_decide_eq_false (notT h59) | replace h59 := notT h59 | skip
              refine gN (g := 59) rfl rfl rfl rfl ?_
              refine gN (g := 59) rfl rfl rfl rfl ?_
              refine gN (g := 59) rfl rfl rfl rfl ?_
              refine gN (g := 59) rfl rfl rfl rfl ?_
              refine gN (g := 59) rfl rfl rfl rfl ?_
              refine gN (g := 59) rfl rfl rfl rfl ?_
              refine st (X.pickT rfl rfl) rfl ?_
              refine Wn ?_
              refine tN ?_
              refine W_yes rfl (rfl) ?_
              refine W_rs ?_
              refine sa rfl rfl ?_
              refine Wn ?_
              refine tN ?_
              refine W_ret (bR (tR (tR (bR (tR ?_)))))
              refine (rT rfl rfl ⟨?_, hbw⟩).1
              rw [show colsOk l = false by unfold colsOk; rw [hf, from_bad hx (.inl (by unfold colOk; rw [show decide (1 ≤ x.kind ∧ x.kind ≤ 6) = false from decide_eq_false (by omega)]; simp))]; simp]
            · first | replace h59 := of_decide_eq_false h59 | replace h59 := of_decide_eq_true (notF h59) | replace h59 := notF h59 | skip
              refine gY (g := 59) rfl rfl rfl ?_
              refine sm rfl rfl ?_
              refine gY (g := 59) rfl rfl rfl ?_
              refine sm rfl rfl ?_
              refine gY (g := 59) rfl rfl rfl ?_
              refine st (X.idxA rfl rfl Tryd.underlying23 siz60 rfl (by omega)) rfl ?_
              refine gY (g := 59) rfl rfl rfl ?_
              refine st (X.fa fa60_1 rfl) rfl ?_
              refine gY (g := 59) rfl rfl rfl ?_
              refine st (X.ld rfl Tryd.underlying3 rfl (hrg 1 _ rfl)) rfl ?_
              refine gY (g := 59) rfl rfl rfl ?_
              refine st (X.gtr rfl rfl) rfl ?_
              refine st (X.pickF rfl rfl) rfl ?_
              refine Wn ?_
              refine tN ?_
              refine W_if rfl (fun h66 => ?_) (fun h66 => ?_)
              · first | replace h66 := of_decide_eq_true h66 | replace h66 := of_decide_eq_false (notT h66) | replace h66 := notT h66 | skip
                refine W_rs ?_
                refine sa rfl rfl ?_
                refine Wn ?_
                refine tN ?_
                refine W_ret (bR (tR (tR (bR (tR ?_)))))
                refine (rT rfl rfl ⟨?_, hbw⟩).1
                rw [show colsOk l = false by unfold colsOk; rw [hf, from_bad hx (.inl (by unfold colOk; rw [show decide (1 ≤ x.kind ∧ x.kind ≤ 6) = false from decide_eq_false (by omega)]; simp))]; simp]
              · first | replace h66 := of_decide_eq_false h66 | replace h66 := of_decide_eq_true (notF h66) | replace h66 := notF h66 | skip
                have hok : colOk x = true := by unfold colOk; rw [show validU x.name = true by simpa using h51, decide_eq_true h33, show decide (x.name.length ≤ 64) = true from decide_eq_true (by omega), show decide (1 ≤ x.kind ∧ x.kind ≤ 6) = true from decide_eq_true (by omega)]; rfl
                refine W_skip ?_
                refine bN ?_
                refine tN ?_
                refine W_reg ?_
                refine sm rfl rfl ?_
                refine st (X.add64 rfl rfl (by omega)) rfl ?_
                refine sa rfl rfl ?_
                refine Wn ?_
                refine tN ⟨_, _, ?_, ⟨j + 1, rfl, rfl, by omega, by rw [hf, colsFrom_at l j x hx, hok, decide_eq_true hno]; rfl, hbw⟩, ⟨rfl, rfl, trivial⟩⟩
                omega
  · first | replace h8 := of_decide_eq_false h8 | replace h8 := of_decide_eq_true (notF h8) | replace h8 := notF h8 | skip
    refine W_exit (tE (tE (bH ?_)))
    refine tN ?_
    refine W_rs ?_
    refine sm rfl rfl ?_
    refine st (X.lenL rfl rfl Tryd.underlying23) rfl ?_
    refine st (X.geq rfl rfl) rfl ?_
    refine sb rfl rfl (fun h70 => ?_) (fun h70 => ?_)
    · first | replace h70 := of_decide_eq_true h70 | replace h70 := of_decide_eq_false (notT h70) | replace h70 := notT h70 | skip
      refine gY (g := 70) rfl rfl rfl ?_
      refine sm rfl rfl ?_
      refine gY (g := 70) rfl rfl rfl ?_
      refine st (X.lenL rfl rfl Tryd.underlying23) rfl ?_
      refine gY (g := 70) rfl rfl rfl ?_
      refine st (X.leq rfl rfl) rfl ?_
      refine st (X.pickT rfl rfl) rfl ?_
      refine sa rfl rfl ?_
      refine Wn ?_
      refine tN ?_
      refine W_ret ?_
      refine (rT rfl rfl ⟨?_, hbw⟩).1
      obtain rfl : j = l.length := by omega
      unfold colsOk; rw [hf, List.drop_length, show ∀ q, colsFrom q [] = true from fun _ => rfl, Bool.and_true]; congr 2; rw [decide_eq_decide]; omega
    · first | replace h70 := of_decide_eq_false h70 | replace h70 := of_decide_eq_true (notF h70) | replace h70 := notF h70 | skip
      refine gN (g := 70) rfl rfl rfl rfl ?_
      refine gN (g := 70) rfl rfl rfl rfl ?_
      refine gN (g := 70) rfl rfl rfl rfl ?_
      refine st (X.pickF rfl rfl) rfl ?_
      refine sa rfl rfl ?_
      refine Wn ?_
      refine tN ?_
      refine W_ret ?_
      refine (rT rfl rfl ⟨?_, hbw⟩).1
      unfold colsOk; rw [show decide (1 ≤ l.length ∧ l.length ≤ 32) = false from decide_eq_false (by omega)]; rfl
end Go.Proofs.YtnagmpnpgekhfaaDoor
