/- manifest bytes read by an index, against the reader by pieces. -/
import Derived.Test.YtnagmpnpgekhfaaDoorRefCheck
import Derived.Test.YtnagmpnpgekhfaaDoorRefOf
import Derived.Test.YtnagmpnpgekhfaaDoorDecode
namespace Go.Proofs.YtnagmpnpgekhfaaDoor
open Go.RowKit
theorem num_cut (s : List UInt8) (n a : Nat) (h : a + 4 ≤ n) : num ((s.take n).drop a) = num (s.drop a) := by
  rw [numAt, numAt]
  simp only [List.getD, List.getElem?_take_of_lt (show a < n by omega), List.getElem?_take_of_lt (show a + 1 < n by omega), List.getElem?_take_of_lt (show a + 2 < n by omega), List.getElem?_take_of_lt (show a + 3 < n by omega)]
theorem cut_cut (s : List UInt8) (n a k : Nat) (h : a + k ≤ n) : ((s.take n).drop a).take k = (s.take (a + k)).drop a := by
  rw [List.drop_take, List.take_take, List.drop_take, Nat.min_eq_left (by omega), Nat.add_sub_cancel_left]
theorem two_at (s : List UInt8) (n p : Nat) (hn : n ≤ s.length) (h : p + 2 ≤ n) : (s.take n).drop p = s.getD p 0 :: s.getD (p + 1) 0 :: (s.take n).drop (p + 2) := by
  rw [List.drop_eq_getElem_cons (by rw [List.length_take]; omega), List.drop_eq_getElem_cons (by rw [List.length_take]; omega)]
  simp only [List.getElem_take, List.getD, List.getElem?_eq_getElem (show p < s.length by omega), List.getElem?_eq_getElem (show p + 1 < s.length by omega), Option.getD_some]
theorem colP_no1 (s : List UInt8) (n p : Nat) (hn : n ≤ s.length) (h : n < p + 2) : colP ((s.take n).drop p) = none := by
  have hl : ((s.take n).drop p).length < 2 := by rw [List.length_drop, List.length_take]; omega
  match (s.take n).drop p, hl with
  | [], _ => rfl
  | [_], _ => rfl
theorem colP_no2 (s : List UInt8) (n p m : Nat) (hn : n ≤ s.length) (h : p + 2 ≤ n) (hm : (s.getD (p + 1) 0).toNat = m) (h2 : n < p + 2 + m + 4) : colP ((s.take n).drop p) = none := by
  rw [two_at s n p hn h]
  simp only [colP, hm, List.length_drop, List.length_take]
  split
  · rw [if_neg (by omega)]
  · rfl
theorem colP_no3 (s : List UInt8) (n p m k : Nat) (hn : n ≤ s.length) (hm : (s.getD (p + 1) 0).toNat = m) (h2 : p + 2 + m + 4 ≤ n) (hk : num (s.drop (p + 2 + m)) = k) (h3 : (n - (p + 2 + m + 4)) / 36 < k) : colP ((s.take n).drop p) = none := by
  rw [two_at s n p hn (by omega)]
  simp only [colP, hm, List.drop_drop]
  rw [num_cut s n _ (by omega), hk]
  simp only [List.length_drop, List.length_take]
  rw [if_pos (by omega), if_pos (by omega), if_neg (by omega)]
theorem colP_yes (s : List UInt8) (n p m k : Nat) (hn : n ≤ s.length) (hm : (s.getD (p + 1) 0).toNat = m) (h2 : p + 2 + m + 4 ≤ n) (hk : num (s.drop (p + 2 + m)) = k) (h3 : k ≤ (n - (p + 2 + m + 4)) / 36) :
    colP ((s.take n).drop p) = some (⟨(s.take (p + 2 + m)).drop (p + 2), ((s.getD p 0).toNat : Int) % 128, decide ((128 : Int) ≤ ((s.getD p 0).toNat : Int))⟩, chksOf k ((s.take n).drop (p + 2 + m + 4)), (s.take n).drop (p + 2 + m + 4 + 36 * k)) := by
  rw [two_at s n p hn (by omega)]
  simp only [colP, hm, List.drop_drop]
  rw [num_cut s n _ (by omega), hk, cut_cut s n (p + 2) m (by omega)]
  simp only [List.length_drop, List.length_take]
  rw [if_pos (by omega), if_pos (by omega), if_pos (by omega)]
theorem chks_ix (s : List UInt8) (n q k j : Nat) (hj : j < k) (h : q + 36 * k ≤ n) : (chksOf k ((s.take n).drop q))[j]? = some ⟨(s.take (q + 36 * j + 32)).drop (q + 36 * j), num (s.drop (q + 36 * j + 32))⟩ := by
  rw [chksOf_at _ _ _ hj, List.drop_drop, List.drop_drop, cut_cut s n (q + 36 * j) 32 (by omega), ← Nat.add_assoc, num_cut s n _ (by omega)]
end Go.Proofs.YtnagmpnpgekhfaaDoor
