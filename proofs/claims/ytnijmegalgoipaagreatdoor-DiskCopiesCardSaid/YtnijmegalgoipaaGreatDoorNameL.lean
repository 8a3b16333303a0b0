/- armariumref01: Name. -/
import Derived.Test.YtnijmegalgoipaaGreatDoorDiskW
namespace Go.Proofs.YtnijmegalgoipaaGreatDoor
open Go.RowKit
theorem letterB_iff (b : UInt8) : letterB b = true ↔ ((97 ≤ b.toNat ∧ b.toNat ≤ 122) ∨ (48 ≤ b.toNat ∧ b.toNat ≤ 57) ∨ b.toNat = 46 ∨ b.toNat = 45 ∨ b.toNat = 95) := by
  have e : ∀ n : UInt8, (b == n) = decide (b.toNat = n.toNat) := fun n => by
    rw [Bool.eq_iff_iff, beq_iff_eq, decide_eq_true_eq]
    exact ⟨fun h => by rw [h], fun h => UInt8.toNat.inj h⟩
  unfold letterB
  rw [e, e, e]
  simp only [Bool.or_eq_true, Bool.and_eq_true, decide_eq_true_eq, or_assoc]
  rfl
theorem letterB_no (b : UInt8) (h : ¬ ((97 ≤ b.toNat ∧ b.toNat ≤ 122) ∨ (48 ≤ b.toNat ∧ b.toNat ≤ 57) ∨ b.toNat = 46 ∨ b.toNat = 45 ∨ b.toNat = 95)) : letterB b = false := by
  cases hb : letterB b with
  | false => rfl
  | true => exact absurd ((letterB_iff b).1 hb) h
theorem Name_any (s : List UInt8) (w : World) (hs : s.length ≤ 9223372036854775807) : Calls Tryz.prog 94 #[str s] w fun e w' => e = .returned (.bool (nameOk s)) ∧ Below w.heap.size w w' := by
  refine W_enter (args := [str s]) 48 Tryz.func94 rfl rfl rfl ?_
  refine W_sub [(0, str s)] ?_ ⟨rfl, trivial⟩
  have hbw := Below.refl w.heap.size w
  refine W_rs ?_
  refine sa rfl rfl ?_
  refine Wn ?_
  refine tN ?_
  refine W_seq ?_
  refine W_rs ?_
  refine sa rfl rfl ?_
  refine Wn ?_
  refine tN ?_
  refine W_block ?_
  refine W_lp (fun nw1_ lw1_ w1 => ∃ i : Nat, nw1_ = s.length - i ∧ lw1_ = ([(0, str s), (3, .int .i64 i)] : Env) ∧ (i ≤ s.length) ∧ (Below w.heap.size w w1) ∧ ((s.take i).all letterB = true)) _ ⟨_, ⟨0, rfl, rfl, Nat.zero_le _, hbw, rfl⟩, ⟨rfl, rfl, trivial⟩⟩ ?_
  clear hbw
  rintro nw1_ lw1_ w1 ⟨i, rfl, rfl, hi, hbw, hp⟩
  have hz_w1 := hbw.size
  refine W_seq ?_
  refine W_rs ?_
  refine sm rfl rfl ?_
  refine sm rfl rfl ?_
  refine st (X.lenS rfl rfl Tryz.underlying9) rfl ?_
  refine st (X.lss rfl rfl) rfl ?_
  refine Wn ?_
  refine tN ?_
  refine W_if rfl (fun h8 => ?_) (fun h8 => ?_)
  · first | replace h8 := of_decide_eq_true h8 | replace h8 := of_decide_eq_false (notT h8) | replace h8 := notT h8 | skip
    obtain ⟨x, hx⟩ : ∃ x, s[i]? = some x := ⟨_, List.getElem?_eq_getElem (by omega)⟩
    have hgd : s.getD i 0 = x := by rw [List.getD_eq_getElem?_getD, hx]; rfl
    refine W_skip ?_
    refine tN ?_
    refine W_seq ?_
    refine W_block ?_
    refine W_rs ?_
    refine sm rfl rfl ?_
    refine sm rfl rfl ?_
    refine st (X.idxS rfl rfl Tryz.underlying9 rfl (by omega)) rfl ?_
    rw [hgd]
    refine sa rfl rfl ?_
    refine Wn ?_
    refine tN ?_
    refine W_rs ?_
    refine sm rfl rfl ?_
    refine st (X.lss rfl rfl) rfl ?_
    refine sb rfl rfl (fun h16 => ?_) (fun h16 => ?_)
    · first | replace h16 := of_decide_eq_true h16 | replace h16 := of_decide_eq_false (notT h16) | replace h16 := notT h16 | skip
      refine gN (g := 16) rfl rfl rfl rfl ?_
      refine gN (g := 16) rfl rfl rfl rfl ?_
      refine st (X.pickT rfl rfl) rfl ?_
      refine sm rfl rfl ?_
      refine gY (g := 20) rfl rfl rfl ?_
      refine sm rfl rfl ?_
      refine gY (g := 20) rfl rfl rfl ?_
      refine st (X.lss rfl rfl) rfl ?_
      refine gY (g := 20) rfl rfl rfl ?_
      refine sb rfl rfl (fun h23 => ?_) (fun h23 => ?_)
      · first | replace h23 := of_decide_eq_true h23 | replace h23 := of_decide_eq_false (notT h23) | replace h23 := notT h23 | skip
        refine gN (g := 23) rfl rfl rfl rfl ?_
        refine gN (g := 23) rfl rfl rfl rfl ?_
        refine gY (g := 20) rfl rfl rfl ?_
        refine st (X.pickT rfl rfl) rfl ?_
        refine st (X.pickT rfl rfl) rfl ?_
        refine sm rfl rfl ?_
        refine gY (g := 28) rfl rfl rfl ?_
        refine sm rfl rfl ?_
        refine gY (g := 28) rfl rfl rfl ?_
        refine st (X.neq rfl rfl) rfl ?_
        refine st (X.pickT rfl rfl) rfl ?_
        refine sb rfl rfl (fun h32 => ?_) (fun h32 => ?_)
        · first | replace h32 := of_decide_eq_true h32 | replace h32 := of_decide_eq_false (notT h32) | replace h32 := notT h32 | skip
          refine gY (g := 32) rfl rfl rfl ?_
          refine sm rfl rfl ?_
          refine gY (g := 32) rfl rfl rfl ?_
          refine st (X.neq rfl rfl) rfl ?_
          refine st (X.pickT rfl rfl) rfl ?_
          refine sb rfl rfl (fun h36 => ?_) (fun h36 => ?_)
          · first | replace h36 := of_decide_eq_true h36 | replace h36 := of_decide_eq_false (notT h36) | replace h36 := notT h36 | skip
            refine gY (g := 36) rfl rfl rfl ?_
            refine sm rfl rfl ?_
            refine gY (g := 36) rfl rfl rfl ?_
            refine st (X.neq rfl rfl) rfl ?_
            refine st (X.pickT rfl rfl) rfl ?_
            refine Wn ?_
            refine tN ?_
            refine W_if rfl (fun h39 => ?_) (fun h39 => ?_)
            · first | replace h39 := of_decide_eq_true h39 | replace h39 := of_decide_eq_false (notT h39) | replace h39 := notT h39 | skip
              refine W_rs ?_
              refine sa rfl rfl ?_
              refine Wn ?_
              refine tN ?_
              refine W_ret (bR (tR (tR (bR (tR ?_)))))
              refine (rT rfl rfl ⟨?_, hbw⟩).1
              have hno : s.all letterB = false := by
                rw [List.all_eq_false]
                exact ⟨x, List.mem_of_getElem? hx, by rw [letterB_no x (by omega)]; simp⟩
              unfold nameOk
              rw [hno, Bool.and_false]
            · first | replace h39 := of_decide_eq_false h39 | replace h39 := of_decide_eq_true (notF h39) | replace h39 := notF h39 | skip
              refine W_skip ?_
              refine bN ?_
              refine tN ?_
              refine W_reg ?_
              refine sm rfl rfl ?_
              refine st (X.add64 rfl rfl (by omega)) rfl ?_
              refine sa rfl rfl ?_
              refine Wn ?_
              refine tN ⟨_, _, ?_, ⟨i + 1, rfl, rfl, by omega, hbw, by rw [take_next' hx, List.all_append, hp]; simp only [List.all_cons, List.all_nil, Bool.and_true, Bool.true_and]; exact (letterB_iff x).2 (by omega)⟩, ⟨rfl, rfl, trivial⟩⟩
              omega
          · first | replace h36 := of_decide_eq_false h36 | replace h36 := of_decide_eq_true (notF h36) | replace h36 := notF h36 | skip
            refine gN (g := 36) rfl rfl rfl rfl ?_
            refine gN (g := 36) rfl rfl rfl rfl ?_
            refine st (X.pickF rfl rfl) rfl ?_
            refine Wn ?_
            refine tN ?_
            refine W_no rfl (rfl) ?_
            refine W_skip ?_
            refine bN ?_
            refine tN ?_
            refine W_reg ?_
            refine sm rfl rfl ?_
            refine st (X.add64 rfl rfl (by omega)) rfl ?_
            refine sa rfl rfl ?_
            refine Wn ?_
            refine tN ⟨_, _, ?_, ⟨i + 1, rfl, rfl, by omega, hbw, by rw [take_next' hx, List.all_append, hp]; simp only [List.all_cons, List.all_nil, Bool.and_true, Bool.true_and]; exact (letterB_iff x).2 (by omega)⟩, ⟨rfl, rfl, trivial⟩⟩
            omega
        · first | replace h32 := of_decide_eq_false h32 | replace h32 := of_decide_eq_true (notF h32) | replace h32 := notF h32 | skip
          refine gN (g := 32) rfl rfl rfl rfl ?_
          refine gN (g := 32) rfl rfl rfl rfl ?_
          refine st (X.pickF rfl rfl) rfl ?_
          refine sm rfl rfl ?_
          refine gN (g := 36) rfl rfl rfl rfl ?_
          refine gN (g := 36) rfl rfl rfl rfl ?_
          refine st (X.pickF rfl rfl) rfl ?_
          refine Wn ?_
          refine tN ?_
          refine W_no rfl (rfl) ?_
          refine W_skip ?_
          refine bN ?_
          refine tN ?_
          refine W_reg ?_
          refine sm rfl rfl ?_
          refine st (X.add64 rfl rfl (by omega)) rfl ?_
          refine sa rfl rfl ?_
          refine Wn ?_
          refine tN ⟨_, _, ?_, ⟨i + 1, rfl, rfl, by omega, hbw, by rw [take_next' hx, List.all_append, hp]; simp only [List.all_cons, List.all_nil, Bool.and_true, Bool.true_and]; exact (letterB_iff x).2 (by omega)⟩, ⟨rfl, rfl, trivial⟩⟩
          omega
      · first | replace h23 := of_decide_eq_false h23 | replace h23 := of_decide_eq_true (notF h23) | replace h23 := notF h23 | skip
        refine gY (g := 23) rfl rfl rfl ?_
        refine sm rfl rfl ?_
        refine gY (g := 23) rfl rfl rfl ?_
        refine st (X.gtr rfl rfl) rfl ?_
        refine gY (g := 20) rfl rfl rfl ?_
        refine st (X.pickF rfl rfl) rfl ?_
        refine st (X.pickT rfl rfl) rfl ?_
        refine sb rfl rfl (fun h28 => ?_) (fun h28 => ?_)
        · first | replace h28 := of_decide_eq_true h28 | replace h28 := of_decide_eq_false (notT h28) | replace h28 := notT h28 | skip
          refine gY (g := 28) rfl rfl rfl ?_
          refine sm rfl rfl ?_
          refine gY (g := 28) rfl rfl rfl ?_
          refine st (X.neq rfl rfl) rfl ?_
          refine st (X.pickT rfl rfl) rfl ?_
          refine sb rfl rfl (fun h32 => ?_) (fun h32 => ?_)
          · first | replace h32 := of_decide_eq_true h32 | replace h32 := of_decide_eq_false (notT h32) | replace h32 := notT h32 | skip
            refine gY (g := 32) rfl rfl rfl ?_
            refine sm rfl rfl ?_
            refine gY (g := 32) rfl rfl rfl ?_
            refine st (X.neq rfl rfl) rfl ?_
            refine st (X.pickT rfl rfl) rfl ?_
            refine sb rfl rfl (fun h36 => ?_) (fun h36 => ?_)
            · first | replace h36 := of_decide_eq_true h36 | replace h36 := of_decide_eq_false (notT h36) | replace h36 := notT h36 | skip
              refine gY (g := 36) rfl rfl rfl ?_
              refine sm rfl rfl ?_
              refine gY (g := 36) rfl rfl rfl ?_
              refine st (X.neq rfl rfl) rfl ?_
              refine st (X.pickT rfl rfl) rfl ?_
              refine Wn ?_
              refine tN ?_
              refine W_if rfl (fun h39 => ?_) (fun h39 => ?_)
              · first | replace h39 := of_decide_eq_true h39 | replace h39 := of_decide_eq_false (notT h39) | replace h39 := notT h39 | skip
                refine W_rs ?_
                refine sa rfl rfl ?_
                refine Wn ?_
                refine tN ?_
                refine W_ret (bR (tR (tR (bR (tR ?_)))))
                refine (rT rfl rfl ⟨?_, hbw⟩).1
                have hno : s.all letterB = false := by
                  rw [List.all_eq_false]
                  exact ⟨x, List.mem_of_getElem? hx, by rw [letterB_no x (by omega)]; simp⟩
                unfold nameOk
                rw [hno, Bool.and_false]
              · first | replace h39 := of_decide_eq_false h39 | replace h39 := of_decide_eq_true (notF h39) | replace h39 := notF h39 | skip
                refine W_skip ?_
                refine bN ?_
                refine tN ?_
                refine W_reg ?_
                refine sm rfl rfl ?_
                refine st (X.add64 rfl rfl (by omega)) rfl ?_
                refine sa rfl rfl ?_
                refine Wn ?_
                refine tN ⟨_, _, ?_, ⟨i + 1, rfl, rfl, by omega, hbw, by rw [take_next' hx, List.all_append, hp]; simp only [List.all_cons, List.all_nil, Bool.and_true, Bool.true_and]; exact (letterB_iff x).2 (by omega)⟩, ⟨rfl, rfl, trivial⟩⟩
                omega
            · first | replace h36 := of_decide_eq_false h36 | replace h36 := of_decide_eq_true (notF h36) | replace h36 := notF h36 | skip
              refine gN (g := 36) rfl rfl rfl rfl ?_
              refine gN (g := 36) rfl rfl rfl rfl ?_
              refine st (X.pickF rfl rfl) rfl ?_
              refine Wn ?_
              refine tN ?_
              refine W_no rfl (rfl) ?_
              refine W_skip ?_
              refine bN ?_
              refine tN ?_
              refine W_reg ?_
              refine sm rfl rfl ?_
              refine st (X.add64 rfl rfl (by omega)) rfl ?_
              refine sa rfl rfl ?_
              refine Wn ?_
              refine tN ⟨_, _, ?_, ⟨i + 1, rfl, rfl, by omega, hbw, by rw [take_next' hx, List.all_append, hp]; simp only [List.all_cons, List.all_nil, Bool.and_true, Bool.true_and]; exact (letterB_iff x).2 (by omega)⟩, ⟨rfl, rfl, trivial⟩⟩
              omega
          · first | replace h32 := of_decide_eq_false h32 | replace h32 := of_decide_eq_true (notF h32) | replace h32 := notF h32 | skip
            refine gN (g := 32) rfl rfl rfl rfl ?_
            refine gN (g := 32) rfl rfl rfl rfl ?_
            refine st (X.pickF rfl rfl) rfl ?_
            refine sm rfl rfl ?_
            refine gN (g := 36) rfl rfl rfl rfl ?_
            refine gN (g := 36) rfl rfl rfl rfl ?_
            refine st (X.pickF rfl rfl) rfl ?_
            refine Wn ?_
            refine tN ?_
            refine W_no rfl (rfl) ?_
            refine W_skip ?_
            refine bN ?_
            refine tN ?_
            refine W_reg ?_
            refine sm rfl rfl ?_
            refine st (X.add64 rfl rfl (by omega)) rfl ?_
            refine sa rfl rfl ?_
            refine Wn ?_
            refine tN ⟨_, _, ?_, ⟨i + 1, rfl, rfl, by omega, hbw, by rw [take_next' hx, List.all_append, hp]; simp only [List.all_cons, List.all_nil, Bool.and_true, Bool.true_and]; exact (letterB_iff x).2 (by omega)⟩, ⟨rfl, rfl, trivial⟩⟩
            omega
        · first | replace h28 := of_decide_eq_false h28 | replace h28 := of_decide_eq_true (notF h28) | replace h28 := notF h28 | skip
          refine gN (g := 28) rfl rfl rfl rfl ?_
          refine gN (g := 28) rfl rfl rfl rfl ?_
          refine st (X.pickF rfl rfl) rfl ?_
          refine sm rfl rfl ?_
          refine gN (g := 32) rfl rfl rfl rfl ?_
          refine gN (g := 32) rfl rfl rfl rfl ?_
          refine st (X.pickF rfl rfl) rfl ?_
          refine sm rfl rfl ?_
          refine gN (g := 36) rfl rfl rfl rfl ?_
          refine gN (g := 36) rfl rfl rfl rfl ?_
          refine st (X.pickF rfl rfl) rfl ?_
          refine Wn ?_
          refine tN ?_
          refine W_no rfl (rfl) ?_
          refine W_skip ?_
          refine bN ?_
          refine tN ?_
          refine W_reg ?_
          refine sm rfl rfl ?_
          refine st (X.add64 rfl rfl (by omega)) rfl ?_
          refine sa rfl rfl ?_
          refine Wn ?_
          refine tN ⟨_, _, ?_, ⟨i + 1, rfl, rfl, by omega, hbw, by rw [take_next' hx, List.all_append, hp]; simp only [List.all_cons, List.all_nil, Bool.and_true, Bool.true_and]; exact (letterB_iff x).2 (by omega)⟩, ⟨rfl, rfl, trivial⟩⟩
          omega
    · first | replace h16 := of_decide_eq_false h16 | replace h16 := of_decide_eq_true (notF h16) | replace h16 := notF h16 | skip
      refine gY (g := 16) rfl rfl rfl ?_
      refine sm rfl rfl ?_
      refine gY (g := 16) rfl rfl rfl ?_
      refine st (X.gtr rfl rfl) rfl ?_
      refine st (X.pickF rfl rfl) rfl ?_
      refine sb rfl rfl (fun h20 => ?_) (fun h20 => ?_)
      · first | replace h20 := of_decide_eq_true h20 | replace h20 := of_decide_eq_false (notT h20) | replace h20 := notT h20 | skip
        refine gY (g := 20) rfl rfl rfl ?_
        refine sm rfl rfl ?_
        refine gY (g := 20) rfl rfl rfl ?_
        refine st (X.lss rfl rfl) rfl ?_
        refine gY (g := 20) rfl rfl rfl ?_
        refine sb rfl rfl (fun h23 => ?_) (fun h23 => ?_)
        · first | replace h23 := of_decide_eq_true h23 | replace h23 := of_decide_eq_false (notT h23) | replace h23 := notT h23 | skip
          refine gN (g := 23) rfl rfl rfl rfl ?_
          refine gN (g := 23) rfl rfl rfl rfl ?_
          refine gY (g := 20) rfl rfl rfl ?_
          refine st (X.pickT rfl rfl) rfl ?_
          refine st (X.pickT rfl rfl) rfl ?_
          refine sm rfl rfl ?_
          refine gY (g := 28) rfl rfl rfl ?_
          refine sm rfl rfl ?_
          refine gY (g := 28) rfl rfl rfl ?_
          refine st (X.neq rfl rfl) rfl ?_
          refine st (X.pickT rfl rfl) rfl ?_
          refine sb rfl rfl (fun h32 => ?_) (fun h32 => ?_)
          · first | replace h32 := of_decide_eq_true h32 | replace h32 := of_decide_eq_false (notT h32) | replace h32 := notT h32 | skip
            refine gY (g := 32) rfl rfl rfl ?_
            refine sm rfl rfl ?_
            refine gY (g := 32) rfl rfl rfl ?_
            refine st (X.neq rfl rfl) rfl ?_
            refine st (X.pickT rfl rfl) rfl ?_
            refine sb rfl rfl (fun h36 => ?_) (fun h36 => ?_)
            · first | replace h36 := of_decide_eq_true h36 | replace h36 := of_decide_eq_false (notT h36) | replace h36 := notT h36 | skip
              refine gY (g := 36) rfl rfl rfl ?_
              refine sm rfl rfl ?_
              refine gY (g := 36) rfl rfl rfl ?_
              refine st (X.neq rfl rfl) rfl ?_
              refine st (X.pickT rfl rfl) rfl ?_
              refine Wn ?_
              refine tN ?_
              refine W_if rfl (fun h39 => ?_) (fun h39 => ?_)
              · first | replace h39 := of_decide_eq_true h39 | replace h39 := of_decide_eq_false (notT h39) | replace h39 := notT h39 | skip
                refine W_rs ?_
                refine sa rfl rfl ?_
                refine Wn ?_
                refine tN ?_
                refine W_ret (bR (tR (tR (bR (tR ?_)))))
                refine (rT rfl rfl ⟨?_, hbw⟩).1
                have hno : s.all letterB = false := by
                  rw [List.all_eq_false]
                  exact ⟨x, List.mem_of_getElem? hx, by rw [letterB_no x (by omega)]; simp⟩
                unfold nameOk
                rw [hno, Bool.and_false]
              · first | replace h39 := of_decide_eq_false h39 | replace h39 := of_decide_eq_true (notF h39) | replace h39 := notF h39 | skip
                refine W_skip ?_
                refine bN ?_
                refine tN ?_
                refine W_reg ?_
                refine sm rfl rfl ?_
                refine st (X.add64 rfl rfl (by omega)) rfl ?_
                refine sa rfl rfl ?_
                refine Wn ?_
                refine tN ⟨_, _, ?_, ⟨i + 1, rfl, rfl, by omega, hbw, by rw [take_next' hx, List.all_append, hp]; simp only [List.all_cons, List.all_nil, Bool.and_true, Bool.true_and]; exact (letterB_iff x).2 (by omega)⟩, ⟨rfl, rfl, trivial⟩⟩
                omega
            · first | replace h36 := of_decide_eq_false h36 | replace h36 := of_decide_eq_true (notF h36) | replace h36 := notF h36 | skip
              refine gN (g := 36) rfl rfl rfl rfl ?_
              refine gN (g := 36) rfl rfl rfl rfl ?_
              refine st (X.pickF rfl rfl) rfl ?_
              refine Wn ?_
              refine tN ?_
              refine W_no rfl (rfl) ?_
              refine W_skip ?_
              refine bN ?_
              refine tN ?_
              refine W_reg ?_
              refine sm rfl rfl ?_
              refine st (X.add64 rfl rfl (by omega)) rfl ?_
              refine sa rfl rfl ?_
              refine Wn ?_
              refine tN ⟨_, _, ?_, ⟨i + 1, rfl, rfl, by omega, hbw, by rw [take_next' hx, List.all_append, hp]; simp only [List.all_cons, List.all_nil, Bool.and_true, Bool.true_and]; exact (letterB_iff x).2 (by omega)⟩, ⟨rfl, rfl, trivial⟩⟩
              omega
          · first | replace h32 := of_decide_eq_false h32 | replace h32 := of_decide_eq_true (notF h32) | replace h32 := notF h32 | skip
            refine gN (g := 32) rfl rfl rfl rfl ?_
            refine gN (g := 32) rfl rfl rfl rfl ?_
            refine st (X.pickF rfl rfl) rfl ?_
            refine sm rfl rfl ?_
            refine gN (g := 36) rfl rfl rfl rfl ?_
            refine gN (g := 36) rfl rfl rfl rfl ?_
            refine st (X.pickF rfl rfl) rfl ?_
            refine Wn ?_
            refine tN ?_
            refine W_no rfl (rfl) ?_
            refine W_skip ?_
            refine bN ?_
            refine tN ?_
            refine W_reg ?_
            refine sm rfl rfl ?_
            refine st (X.add64 rfl rfl (by omega)) rfl ?_
            refine sa rfl rfl ?_
            refine Wn ?_
            refine tN ⟨_, _, ?_, ⟨i + 1, rfl, rfl, by omega, hbw, by rw [take_next' hx, List.all_append, hp]; simp only [List.all_cons, List.all_nil, Bool.and_true, Bool.true_and]; exact (letterB_iff x).2 (by omega)⟩, ⟨rfl, rfl, trivial⟩⟩
            omega
        · first | replace h23 := of_decide_eq_false h23 | replace h23 := of_decide_eq_true (notF h23) | replace h23 := notF h23 | skip
          refine gY (g := 23) rfl rfl rfl ?_
          refine sm rfl rfl ?_
          refine gY (g := 23) rfl rfl rfl ?_
          refine st (X.gtr rfl rfl) rfl ?_
          refine gY (g := 20) rfl rfl rfl ?_
          refine st (X.pickF rfl rfl) rfl ?_
          refine st (X.pickT rfl rfl) rfl ?_
          refine sb rfl rfl (fun h28 => ?_) (fun h28 => ?_)
          · first | replace h28 := of_decide_eq_true h28 | replace h28 := of_decide_eq_false (notT h28) | replace h28 := notT h28 | skip
            refine gY (g := 28) rfl rfl rfl ?_
            refine sm rfl rfl ?_
            refine gY (g := 28) rfl rfl rfl ?_
            refine st (X.neq rfl rfl) rfl ?_
            refine st (X.pickT rfl rfl) rfl ?_
            refine sb rfl rfl (fun h32 => ?_) (fun h32 => ?_)
            · first | replace h32 := of_decide_eq_true h32 | replace h32 := of_decide_eq_false (notT h32) | replace h32 := notT h32 | skip
              refine gY (g := 32) rfl rfl rfl ?_
              refine sm rfl rfl ?_
              refine gY (g := 32) rfl rfl rfl ?_
              refine st (X.neq rfl rfl) rfl ?_
              refine st (X.pickT rfl rfl) rfl ?_
              refine sb rfl rfl (fun h36 => ?_) (fun h36 => ?_)
              · first | replace h36 := of_decide_eq_true h36 | replace h36 := of_decide_eq_false (notT h36) | replace h36 := notT h36 | skip
                refine gY (g := 36) rfl rfl rfl ?_
                refine sm rfl rfl ?_
                refine gY (g := 36) rfl rfl rfl ?_
                refine st (X.neq rfl rfl) rfl ?_
                refine st (X.pickT rfl rfl) rfl ?_
                refine Wn ?_
                refine tN ?_
                refine W_if rfl (fun h39 => ?_) (fun h39 => ?_)
                · first | replace h39 := of_decide_eq_true h39 | replace h39 := of_decide_eq_false (notT h39) | replace h39 := notT h39 | skip
                  refine W_rs ?_
                  refine sa rfl rfl ?_
                  refine Wn ?_
                  refine tN ?_
                  refine W_ret (bR (tR (tR (bR (tR ?_)))))
                  refine (rT rfl rfl ⟨?_, hbw⟩).1
                  have hno : s.all letterB = false := by
                    rw [List.all_eq_false]
                    exact ⟨x, List.mem_of_getElem? hx, by rw [letterB_no x (by omega)]; simp⟩
                  unfold nameOk
                  rw [hno, Bool.and_false]
                · first | replace h39 := of_decide_eq_false h39 | replace h39 := of_decide_eq_true (notF h39) | replace h39 := notF h39 | skip
                  refine W_skip ?_
                  refine bN ?_
                  refine tN ?_
                  refine W_reg ?_
                  refine sm rfl rfl ?_
                  refine st (X.add64 rfl rfl (by omega)) rfl ?_
                  refine sa rfl rfl ?_
                  refine Wn ?_
                  refine tN ⟨_, _, ?_, ⟨i + 1, rfl, rfl, by omega, hbw, by rw [take_next' hx, List.all_append, hp]; simp only [List.all_cons, List.all_nil, Bool.and_true, Bool.true_and]; exact (letterB_iff x).2 (by omega)⟩, ⟨rfl, rfl, trivial⟩⟩
                  omega
              · first | replace h36 := of_decide_eq_false h36 | replace h36 := of_decide_eq_true (notF h36) | replace h36 := notF h36 | skip
                refine gN (g := 36) rfl rfl rfl rfl ?_
                refine gN (g := 36) rfl rfl rfl rfl ?_
                refine st (X.pickF rfl rfl) rfl ?_
                refine Wn ?_
                refine tN ?_
                refine W_no rfl (rfl) ?_
                refine W_skip ?_
                refine bN ?_
                refine tN ?_
                refine W_reg ?_
                refine sm rfl rfl ?_
                refine st (X.add64 rfl rfl (by omega)) rfl ?_
                refine sa rfl rfl ?_
                refine Wn ?_
                refine tN ⟨_, _, ?_, ⟨i + 1, rfl, rfl, by omega, hbw, by rw [take_next' hx, List.all_append, hp]; simp only [List.all_cons, List.all_nil, Bool.and_true, Bool.true_and]; exact (letterB_iff x).2 (by omega)⟩, ⟨rfl, rfl, trivial⟩⟩
                omega
            · first | replace h32 := of_decide_eq_false h32 | replace h32 := of_decide_eq_true (notF h32) | replace h32 := notF h32 | skip
              refine gN (g := 32) rfl rfl rfl rfl ?_
              refine gN (g := 32) rfl rfl rfl rfl ?_
              refine st (X.pickF rfl rfl) rfl ?_
              refine sm rfl rfl ?_
              refine gN (g := 36) rfl rfl rfl rfl ?_
              refine gN (g := 36) rfl rfl rfl rfl ?_
              refine st (X.pickF rfl rfl) rfl ?_
              refine Wn ?_
              refine tN ?_
              refine W_no rfl (rfl) ?_
              refine W_skip ?_
              refine bN ?_
              refine tN ?_
              refine W_reg ?_
              refine sm rfl rfl ?_
              refine st (X.add64 rfl rfl (by omega)) rfl ?_
              refine sa rfl rfl ?_
              refine Wn ?_
              refine tN ⟨_, _, ?_, ⟨i + 1, rfl, rfl, by omega, hbw, by rw [take_next' hx, List.all_append, hp]; simp only [List.all_cons, List.all_nil, Bool.and_true, Bool.true_and]; exact (letterB_iff x).2 (by omega)⟩, ⟨rfl, rfl, trivial⟩⟩
              omega
          · first | replace h28 := of_decide_eq_false h28 | replace h28 := of_decide_eq_true (notF h28) | replace h28 := notF h28 | skip
            refine gN (g := 28) rfl rfl rfl rfl ?_
            refine gN (g := 28) rfl rfl rfl rfl ?_
            refine st (X.pickF rfl rfl) rfl ?_
            refine sm rfl rfl ?_
            refine gN (g := 32) rfl rfl rfl rfl ?_
            refine gN (g := 32) rfl rfl rfl rfl ?_
            refine st (X.pickF rfl rfl) rfl ?_
            refine sm rfl rfl ?_
            refine gN (g := 36) rfl rfl rfl rfl ?_
            refine gN (g := 36) rfl rfl rfl rfl ?_
            refine st (X.pickF rfl rfl) rfl ?_
            refine Wn ?_
            refine tN ?_
            refine W_no rfl (rfl) ?_
            refine W_skip ?_
            refine bN ?_
            refine tN ?_
            refine W_reg ?_
            refine sm rfl rfl ?_
            refine st (X.add64 rfl rfl (by omega)) rfl ?_
            refine sa rfl rfl ?_
            refine Wn ?_
            refine tN ⟨_, _, ?_, ⟨i + 1, rfl, rfl, by omega, hbw, by rw [take_next' hx, List.all_append, hp]; simp only [List.all_cons, List.all_nil, Bool.and_true, Bool.true_and]; exact (letterB_iff x).2 (by omega)⟩, ⟨rfl, rfl, trivial⟩⟩
            omega
      · first | replace h20 := of_decide_eq_false h20 | replace h20 := of_decide_eq_true (notF h20) | replace h20 := notF h20 | skip
        refine gN (g := 20) rfl rfl rfl rfl ?_
        refine gN (g := 20) rfl rfl rfl rfl ?_
        refine gN (g := 20) rfl rfl rfl rfl ?_
        refine gU (g := 23) rfl rfl rfl rfl ?_
        refine gU (g := 23) rfl rfl rfl rfl ?_
        refine gN (g := 20) rfl rfl rfl rfl ?_
        refine st (X.pickF rfl rfl) rfl ?_
        refine sm rfl rfl ?_
        refine gN (g := 28) rfl rfl rfl rfl ?_
        refine gN (g := 28) rfl rfl rfl rfl ?_
        refine st (X.pickF rfl rfl) rfl ?_
        refine sm rfl rfl ?_
        refine gN (g := 32) rfl rfl rfl rfl ?_
        refine gN (g := 32) rfl rfl rfl rfl ?_
        refine st (X.pickF rfl rfl) rfl ?_
        refine sm rfl rfl ?_
        refine gN (g := 36) rfl rfl rfl rfl ?_
        refine gN (g := 36) rfl rfl rfl rfl ?_
        refine st (X.pickF rfl rfl) rfl ?_
        refine Wn ?_
        refine tN ?_
        refine W_no rfl (rfl) ?_
        refine W_skip ?_
        refine bN ?_
        refine tN ?_
        refine W_reg ?_
        refine sm rfl rfl ?_
        refine st (X.add64 rfl rfl (by omega)) rfl ?_
        refine sa rfl rfl ?_
        refine Wn ?_
        refine tN ⟨_, _, ?_, ⟨i + 1, rfl, rfl, by omega, hbw, by rw [take_next' hx, List.all_append, hp]; simp only [List.all_cons, List.all_nil, Bool.and_true, Bool.true_and]; exact (letterB_iff x).2 (by omega)⟩, ⟨rfl, rfl, trivial⟩⟩
        omega
  · first | replace h8 := of_decide_eq_false h8 | replace h8 := of_decide_eq_true (notF h8) | replace h8 := notF h8 | skip
    obtain rfl : i = s.length := by omega
    rw [List.take_length] at hp
    refine W_exit (tE (tE (bH ?_)))
    refine tN ?_
    refine W_rs ?_
    refine sm rfl rfl ?_
    refine st (X.lenS rfl rfl Tryz.underlying9) rfl ?_
    refine st (X.geq rfl rfl) rfl ?_
    refine sb rfl rfl (fun h43 => ?_) (fun h43 => ?_)
    · first | replace h43 := of_decide_eq_true h43 | replace h43 := of_decide_eq_false (notT h43) | replace h43 := notT h43 | skip
      refine gY (g := 43) rfl rfl rfl ?_
      refine sm rfl rfl ?_
      refine gY (g := 43) rfl rfl rfl ?_
      refine st (X.lenS rfl rfl Tryz.underlying9) rfl ?_
      refine gY (g := 43) rfl rfl rfl ?_
      refine st (X.leq rfl rfl) rfl ?_
      refine st (X.pickT rfl rfl) rfl ?_
      refine sa rfl rfl ?_
      refine Wn ?_
      refine tN ?_
      refine W_ret ?_
      refine (rT rfl rfl ⟨?_, hbw⟩).1
      have h1 : s.isEmpty = false := by
        cases s with
        | nil => simp at h43
        | cons x l => rfl
      have h2 : decide ((s.length : Int) ≤ 64) = decide (s.length ≤ 64) := by rw [decide_eq_decide]; omega
      unfold nameOk
      rw [hp, Bool.and_true, h1, ← h2]
      rfl
    · first | replace h43 := of_decide_eq_false h43 | replace h43 := of_decide_eq_true (notF h43) | replace h43 := notF h43 | skip
      refine gN (g := 43) rfl rfl rfl rfl ?_
      refine gN (g := 43) rfl rfl rfl rfl ?_
      refine gN (g := 43) rfl rfl rfl rfl ?_
      refine st (X.pickF rfl rfl) rfl ?_
      refine sa rfl rfl ?_
      refine Wn ?_
      refine tN ?_
      refine W_ret ?_
      refine (rT rfl rfl ⟨?_, hbw⟩).1
      have h1 : s = [] := List.eq_nil_of_length_eq_zero (by omega)
      subst h1
      rfl
end Go.Proofs.YtnijmegalgoipaaGreatDoor
