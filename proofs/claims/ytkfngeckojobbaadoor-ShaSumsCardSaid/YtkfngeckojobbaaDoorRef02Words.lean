/- The document's sha: walks of right, moved and constants. -/
import Derived.Test.YtkfngeckojobbaaDoorRegion
import Derived.Test.YtkfngeckojobbaaDoorMem3
import Derived.Test.YtkfngeckojobbaaDoorRef02Plain
import Derived.Test.YtkfngeckojobbaaDoorChecked
import Derived.WalkKit
import Derived.Lib.Hide
import Derived.WalkLawsBesides
import Derived.WalkSpells
import Derived.BigQuiet
import Derived.Deep.QuietTactic
import Derived.Deep.LoopGhost
namespace Go.Proofs.YtkfngeckojobbaaDoor
open Go.RowKit Sha
def iw (x : UInt32) : Value := .int .i64 x.toNat
theorem iw_one (l : List UInt32) : ∀ u ∈ l.map iw, u.oneCell' = true := by
  intro u hu
  obtain ⟨_, _, rfl⟩ := List.mem_map.1 hu
  rfl
theorem iw_at (l : List UInt32) (j : Nat) (h : j < l.length) : (l.map iw)[j]? = some (.int .i64 (l.getD j 0).toNat) := by
  rw [List.getElem?_map, List.getElem?_eq_getElem h]
  simp [List.getD, List.getElem?_eq_getElem h]
  rfl
theorem ref_right (x : UInt32) (n : Nat) (w : World) (h1 : n ≤ 31) :
    Calls Tryd.prog 28 #[.int .i64 x.toNat, .int .i64 n] w fun e w' => e = .returned (.int .i64 (rr x n).toNat) ∧ w = w' := by
  go_enter Tryd.func28, Tryd.ntmps28
  go_wp2
  go_loop [0, 5] (fun t i => ∃ k : Nat, k ≤ n ∧ i = .int .i64 k ∧ t = .int .i64 (rr x k).toNat) (fun _ i => n - (intOf i).toNat)
  case atStart => exact ⟨0, by omega, rfl, rfl⟩
  case round =>
    obtain ⟨k, hk, rfl, rfl⟩ := hrel
    by_cases hlt : k < n
    · have Hs : Hid (rr x (k + 1) = rotr (rr x k) 1) := rfl
      generalize rr x k = y at *
      have hs := lt_u32 y
      go_wp2
      go_round
      case rel => exact ⟨k + 1, by omega, by go_num, by rw [Hs.out, ← rot1_int]⟩
      case measure => simp [intOf]; omega
    · obtain rfl : k = n := by omega
      have hdec : decide (k < k) = false := by simp
      go_wp2
      go_ret
      exact ⟨rfl, rfl⟩
theorem ref_moved (x : UInt32) (n : Nat) (w : World) (h1 : n ≤ 31) :
    Calls Tryd.prog 29 #[.int .i64 x.toNat, .int .i64 n] w fun e w' => e = .returned (.int .i64 (mv x n).toNat) ∧ w = w' := by
  go_enter Tryd.func29, Tryd.ntmps29
  go_wp2
  go_loop [0, 5] (fun t i => ∃ k : Nat, k ≤ n ∧ i = .int .i64 k ∧ t = .int .i64 (mv x k).toNat) (fun _ i => n - (intOf i).toNat)
  case atStart => exact ⟨0, by omega, rfl, rfl⟩
  case round =>
    obtain ⟨k, hk, rfl, rfl⟩ := hrel
    by_cases hlt : k < n
    · have Hs : Hid (mv x (k + 1) = mv x k >>> 1) := rfl
      generalize mv x k = y at *
      have hs := lt_u32 y
      go_wp2
      go_round
      case rel => exact ⟨k + 1, by omega, by go_num, by rw [Hs.out, ← mv1_int]; rfl⟩
      case measure => simp [intOf]; omega
    · obtain rfl : k = n := by omega
      have hdec : decide (k < k) = false := by simp
      go_wp2
      go_ret
      exact ⟨rfl, rfl⟩
theorem ref_rot (x : UInt32) (n : Int) (m : Nat) (r : UInt32) (w : World) (hn : n = m) (h1 : 1 ≤ m) (h2 : m ≤ 31) (hr : rotr x (UInt32.ofNat m) = r) :
    Calls Tryd.prog 28 #[.int .i64 x.toNat, .int .i64 n] w fun e w' => e = .returned (.int .i64 r.toNat) ∧ w = w' := by
  subst hn
  subst hr
  rw [← rr_eq x m h1 h2]
  exact ref_right x m w h2
theorem ref_mov (x : UInt32) (n : Int) (m : Nat) (r : UInt32) (w : World) (hn : n = m) (h2 : m ≤ 31) (hr : x >>> (UInt32.ofNat m) = r) :
    Calls Tryd.prog 29 #[.int .i64 x.toNat, .int .i64 n] w fun e w' => e = .returned (.int .i64 r.toNat) ∧ w = w' := by
  subst hn
  subst hr
  rw [← mv_eq x m h2]
  exact ref_moved x m w h2
theorem info_int : (Tryd.prog.info? 3).map (fun i => (i.zero, i.size, i.bytes)) = some (some (.int .i64 0), 1, 8) := by kernel_rfl
def IntsIs (w : World) (l : List UInt32) (e : Ending) (w' : World) : Prop :=
  ∃ vo, e = .returned vo ∧ Row w' 3 1 vo l.length (l.map iw) ∧ (∀ k, vo.ownBlock = some k → w.heap.size ≤ k) ∧ Below w.heap.size w w'
theorem ref_constants (w : World) : Calls Tryd.prog 21 #[] w (IntsIs w kTab) := by
  go_enter Tryd.func21, Tryd.ntmps21
  go_wp2
  go_ret
  refine ⟨_, rfl, Row.new w 3 1 64 (kTab.map iw).toArray (by simp [maxLen]) rfl, ?_, (Below.refl _ _).alloc (Nat.le_refl _) _⟩
  intro k hk
  simp [Value.ownBlock] at hk
  omega
end Go.Proofs.YtkfngeckojobbaaDoor
