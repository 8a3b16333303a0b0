/- armariumref14.Of. -/
import Derived.Test.YtnijmegalgoipaaGreatDoorGen
import Derived.Test.YtnijmegalgoipaaGreatDoorTypes
namespace Go.Proofs.YtnijmegalgoipaaGreatDoor
open Go.RowKit
/-- the number read so far, from the top byte down -/
def numTop (s : List UInt8) (i : Nat) : Nat → Nat
  | 4 => 0
  | 3 => (s.getD (i + 3) 0).toNat
  | 2 => 256 * (s.getD (i + 3) 0).toNat + (s.getD (i + 2) 0).toNat
  | 1 => 256 * (256 * (s.getD (i + 3) 0).toNat + (s.getD (i + 2) 0).toNat) + (s.getD (i + 1) 0).toNat
  | _ => num (s.drop i)
theorem numTop_next (s : List UInt8) (i k : Nat) (hk : k < 4) : 256 * numTop s i (k + 1) + (s.getD (i + k) 0).toNat = numTop s i k := by
  match k, hk with
  | 3, _ => simp [numTop]
  | 2, _ => simp [numTop]
  | 1, _ => simp [numTop]
  | 0, _ => simp only [numTop, numAt, num4, Nat.add_zero]; omega
theorem numTop_lt (s : List UInt8) (i k : Nat) (hk : 0 < k) (h4 : k ≤ 4) : numTop s i k < 16777216 := by
  have h1 := (s.getD (i + 1) 0).toNat_lt
  have h2 := (s.getD (i + 2) 0).toNat_lt
  have h3 := (s.getD (i + 3) 0).toNat_lt
  match k, hk, h4 with
  | 4, _, _ => simp [numTop]
  | 3, _, _ => simp only [numTop]; omega
  | 2, _, _ => simp only [numTop]; omega
  | 1, _, _ => simp only [numTop]; omega
theorem Of_any (s : List UInt8) (i : Nat) (w : World) (hi : i + 4 ≤ s.length) (hs : s.length ≤ 1099511627776) :
    Calls Tryz.prog 112 #[str s, .int .i64 i] w fun e w' => e = .returned (.int .i64 (num (s.drop i) : Nat)) ∧ Below w.heap.size w w' := by
  refine W_enter (args := [str s, .int .i64 i]) 21 Tryz.func112 rfl rfl rfl ?_
  refine W_sub [(0, str s), (1, .int .i64 i)] ?_ ⟨rfl, rfl, trivial⟩
  have hbw := Below.refl w.heap.size w
  refine W_rs ?_
  refine sa rfl rfl ?_
  refine Wn ?_
  refine tN ?_
  refine W_rs ?_
  refine sa rfl rfl ?_
  refine Wn ?_
  refine tN ?_
  refine W_seq ?_
  refine W_rs ?_
  refine sa rfl rfl ?_
  refine Wn ?_
  refine tN ?_
  refine W_block ?_
  refine W_lp (fun nw1_ lw1_ w1 => ∃ k : Nat, nw1_ = k + 1 ∧ lw1_ = ([(0, str s), (1, .int .i64 i), (5, .int .i64 (numTop s i k)), (6, .int .i64 ((k : Int) - 1))] : Env) ∧ (k ≤ 4) ∧ (Below w.heap.size w w1)) _ ⟨_, ⟨4, rfl, rfl, by omega, hbw⟩, ⟨rfl, rfl, rfl, rfl, trivial⟩⟩ ?_
  clear hbw
  rintro nw1_ lw1_ w1 ⟨k, rfl, rfl, hk, hbw⟩
  have hz_w1 := hbw.size
  refine W_seq ?_
  refine W_rs ?_
  refine sm rfl rfl ?_
  refine st (X.geq rfl rfl) rfl ?_
  refine Wn ?_
  refine tN ?_
  refine W_if rfl (fun h8 => ?_) (fun h8 => ?_)
  · first | replace h8 := of_decide_eq_true h8 | replace h8 := of_decide_eq_false (notT h8) | replace h8 := notT h8 | skip
    have hlt := numTop_lt s i k (by omega) hk
    have hk1 : k - 1 + 1 = k := by omega
    have hb8 := (s.getD (i + (k - 1)) 0).toNat_lt
    refine W_skip ?_
    refine tN ?_
    refine W_seq ?_
    refine W_block ?_
    refine W_reg ?_
    refine sm rfl rfl ?_
    refine st (X.mul64 rfl rfl (by omega)) rfl ?_
    refine sm rfl rfl ?_
    refine sm rfl rfl ?_
    refine sm rfl rfl ?_
    refine st (X.add64 rfl rfl (by omega)) rfl ?_
    refine st (X.idxS (q := i + (k - 1)) rfl rfl Tryz.underlying9 (by omega) (by omega)) rfl ?_
    refine st (X.convI rfl Tryz.underlying5 Tryz.underlying3 (w64 (by omega))) rfl ?_
    refine st (X.add64 rfl rfl (by omega)) rfl ?_
    refine sa rfl rfl ?_
    refine Wn ?_
    refine bN ?_
    refine tN ?_
    refine W_reg ?_
    refine sm rfl rfl ?_
    refine st (X.sub64 rfl rfl (by omega)) rfl ?_
    refine sa rfl rfl ?_
    refine Wn ?_
    refine tN ⟨_, _, ?_, ⟨k - 1, rfl, rfl, by omega, hbw⟩, ⟨rfl, rfl, by rw [← numTop_next s i (k - 1) (by omega), hk1]; rfl, by show some (Value.int .i64 _) = some (Value.int .i64 _); congr 2; omega, trivial⟩⟩
    omega
  · first | replace h8 := of_decide_eq_false h8 | replace h8 := of_decide_eq_true (notF h8) | replace h8 := notF h8 | skip
    refine W_exit (tE (tE (bH ?_)))
    refine tN ?_
    refine W_rs ?_
    refine sm rfl rfl ?_
    refine sa rfl rfl ?_
    refine Wn ?_
    refine tN ?_
    refine W_ret ?_
    obtain rfl : k = 0 := by omega
    exact (rT rfl rfl ⟨rfl, hbw⟩).1
end Go.Proofs.YtnijmegalgoipaaGreatDoor
