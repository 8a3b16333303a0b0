/- Regions that draw their order, and end with operations in one order: the first ones read only, the last ones are walked as in a plain region. -/
import Derived.Test.YtnijmegalgoipaaGreatDoorEnvD
import Derived.StillTail
namespace Go.Proofs.YtnijmegalgoipaaGreatDoor
open Go.RowKit
def WH (P : Program) (N : Nat) (ds : List Deferred) (ops : Array Oper) (Q : Env → Prop) (os : List Oper) (l : Env) (w : World) : Prop := ∀ a, Rep N ds l a → wpStill P ops w (fun a' => ∃ l', Rep N ds l' a' ∧ Q l') os a
section
variable {P : Program} {N : Nat} {ds : List Deferred} {Q : Post} {K : Env → Prop} {os rest : List Oper} {ops : Array Oper} {l : Env} {w : World} {op : Op} {ty : TypeId} {pos : String} {aft : Array Edge} {d : Nat} {v : Value}
theorem hN (h : K l) : WH P N ds ops K [] l w := fun _ ha => wpStill_nil ⟨_, ha, h⟩
theorem hY (hx : X P l op ty w v w) (hd : Nat.blt d N = true) (h : WH P N ds ops K rest ((d, v) :: l) w) : WH P N ds ops K (⟨some d, op, ty, pos, aft, none⟩ :: rest) l w := fun a ha => by
  refine wpStill_step fun K' hK' => ?_
  rw [if_pos (by rfl)]
  unfold Oper.still
  have : (execOp a.eval ⟨some d, op, ty, pos, aft, none⟩).run P w = .ok (.value v) w := hx _ ha.knows
  rw [this, Oper.stillUpon_value]
  exact hK' _ (h _ (ha.put hd v))
theorem wpStill_imp {A B : Act → Prop} (h : ∀ a, A a → B a) : ∀ (os : List Oper) (a : Act), wpStill P ops w A os a → wpStill P ops w B os a
  | [], _, hh => h _ hh
  | o :: rest, a, hh => by
    unfold wpStill at hh ⊢
    split at hh
    · rename_i hw
      rw [if_pos hw]
      exact Oper.still_mono (fun a' h' => wpStill_imp h rest a' h') hh
    · rename_i hw
      rw [if_neg hw]
      exact wpStill_imp h rest _ hh
theorem W_still {id : Nat} (n : Nat) (hm : P.follows .mixedOrders = true) (hB : Region.lexTailB .any os.toArray n = true)
    (h : WH P N ds os.toArray (fun l => WL P N ds os.toArray Q (os.drop n) l w.drew) (os.take n) l w.drew) : W P N ds Q (.region id os.toArray true) l w := fun a ha => by
  refine wp_region_still_tail n hm hB ?_
  have := h a ha
  refine wpStill_imp ?_ _ _ this
  rintro a' ⟨l', hr, hq⟩
  exact hq a' hr
theorem W_still_s {id : Nat} {y : Code} (n : Nat) (hm : P.follows .mixedOrders = true) (hB : Region.lexTailB .any os.toArray n = true)
    (h : WH P N ds os.toArray (fun l => WL P N ds os.toArray (thenQ (W P N ds Q y) Q) (os.drop n) l w.drew) (os.take n) l w.drew) : W P N ds Q (.seq (.region id os.toArray true) y) l w :=
  W_seq (W_still n hm hB h)
end
end Go.Proofs.YtnijmegalgoipaaGreatDoor
