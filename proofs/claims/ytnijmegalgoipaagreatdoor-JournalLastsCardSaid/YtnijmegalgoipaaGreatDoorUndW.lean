/- A drawn region: a guard that never says anything. -/
import Derived.Test.YtnijmegalgoipaaGreatDoorFloatW
import Derived.Test.YtnijmegalgoipaaGreatDoorTree
namespace Go.Proofs.YtnijmegalgoipaaGreatDoor
open Go.RowKit
section
variable {P : Program} {N : Nat} {ds : List Deferred} {Q : Post} {S : World → Prop} {os : List Oper} {is : List Nat} {bs : List Bool} {l r : Env} {w w' : World} {op : Op} {ty : TypeId} {pos : String} {aft : Array Edge} {d i j g : Nat} {b : Bool}
/-- a guard that never says anything -/
theorem oNu {m : Bool} (ho : os[i]? = some ⟨some d, op, ty, pos, aft, some (j, b)⟩) (hj : (os.toArray[j]?).bind (·.dst) = some g) (hg : lk l g = some undef) (hN : Nat.blt g N = true) (hS : S w) (hd : Nat.blt d N = true) (h : WO P N ds os Q S is bs ((d, undef) :: l) w) : WO P N ds os Q S (i :: is) (m :: bs) l w := fun a ha => by
  rw [permute_cons ho]
  have hs : g < a.tmps.size := by rw [ha.size]; exact of_decide_eq_true (by simpa [Nat.blt_eq] using hN)
  have hv := ha.val g _ hg
  have hy : yielded os.toArray a.tmps j = none := by
    unfold yielded
    rw [hj]
    simp only [Option.bind_some]
    rw [Array.getElem?_eq_getElem hs]
    simp only [Array.getD_eq_getD_getElem?, Array.getElem?_eq_getElem hs, Option.getD_some] at hv
    rw [hv]
    rfl
  have hw : Region.wanted ⟨some d, op, ty, pos, aft, some (j, b)⟩ (yielded os.toArray a.tmps) = false := by simp [Region.wanted, hy]
  cases m with
  | true => exact wpOrd_no hw (h _ (ha.put hd undef))
  | false => exact wpOrd_alone_no hw hS (h _ (ha.put hd undef))
end
end Go.Proofs.YtnijmegalgoipaaGreatDoor
