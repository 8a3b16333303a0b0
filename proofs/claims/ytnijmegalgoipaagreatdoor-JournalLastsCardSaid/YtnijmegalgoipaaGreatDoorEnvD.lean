/- Regions that draw their order, in the walk of my own. -/
import Derived.Test.YtnijmegalgoipaaGreatDoorOps2
namespace Go.Proofs.YtnijmegalgoipaaGreatDoor
open Go.RowKit
def WO (P : Program) (N : Nat) (ds : List Deferred) (os : List Oper) (Q : Post) (S : World → Prop) (is : List Nat) (bs : List Bool) (l : Env) (w : World) : Prop :=
  ∀ a, Rep N ds l a → wpOrd P os.toArray (lift N ds Q) S (permute os is) bs a w
section
variable {P : Program} {N : Nat} {ds : List Deferred} {Q : Post} {S : World → Prop} {os : List Oper} {is : List Nat} {bs : List Bool} {l r : Env} {w w' : World} {op : Op} {ty : TypeId} {pos : String} {aft : Array Edge} {d i j g : Nat} {v : Value} {b : Bool}
theorem W_dr {id : Nat} (S : World → Prop) (is : List Nat) (bs : List Bool) (hm : P.follows .mixedOrders = true) (hok : (Region.noSelect os.toArray && permOk os.toArray is bs (Array.replicate os.toArray.size false) && (is.length == os.length)) = true)
    (hQ : ∀ c l w, Q (.panic c) l w → Q (.panic c) [] w) (hS : S w.drew) (h : WO P N ds os Q S is bs l w.drew) : W P N ds Q (.region id os.toArray true) l w := fun a ha =>
  wp_region_perm S is bs hm hok (fun c a d v w hq => by
    obtain ⟨l', hr, hq⟩ := hq
    refine ⟨[], ⟨?_, ?_, fun t v h => by cases h⟩, hQ c l' w hq⟩
    · have := hr.size
      cases d <;> simpa [Act.put] using this
    · have := hr.defers
      cases d <;> simpa [Act.put] using this) hS (h a ha)
theorem W_drs {id : Nat} {y : Code} (S : World → Prop) (is : List Nat) (bs : List Bool) (hm : P.follows .mixedOrders = true) (hok : (Region.noSelect os.toArray && permOk os.toArray is bs (Array.replicate os.toArray.size false) && (is.length == os.length)) = true)
    (hQ : ∀ c l w, Q (.panic c) l w → Q (.panic c) [] w) (hS : S w.drew) (h : WO P N ds os (thenQ (W P N ds Q y) Q) S is bs l w.drew) : W P N ds Q (.seq (.region id os.toArray true) y) l w :=
  W_seq (W_dr S is bs hm hok (fun c l w h => hQ c l w h) hS h)
/-- no way out but the normal one -/
def onlyN (next : Env → World → Prop) : Post
  | .normal, l, w => next l w
  | _, _, _ => False
theorem nN {next : Env → World → Prop} (h : next l w) : onlyN next .normal l w := h
theorem W_drN {id : Nat} (S : World → Prop) (is : List Nat) (bs : List Bool) (hm : P.follows .mixedOrders = true) (hok : (Region.noSelect os.toArray && permOk os.toArray is bs (Array.replicate os.toArray.size false) && (is.length == os.length)) = true)
    (hS : S w.drew) (h : WO P N ds os (onlyN (fun l w => Q .normal l w)) S is bs l w.drew) : W P N ds Q (.region id os.toArray true) l w := fun a ha =>
  Code.wp_mono (fun e a w hq => by
    obtain ⟨l', hr, hq⟩ := hq
    refine ⟨l', hr, ?_⟩
    cases e with
    | normal => exact hq
    | _ => exact hq.elim) (W_dr (Q := onlyN (fun l w => Q .normal l w)) S is bs hm hok (fun _ _ _ h => h) hS h a ha)
theorem W_drsN {id : Nat} {y : Code} (S : World → Prop) (is : List Nat) (bs : List Bool) (hm : P.follows .mixedOrders = true) (hok : (Region.noSelect os.toArray && permOk os.toArray is bs (Array.replicate os.toArray.size false) && (is.length == os.length)) = true)
    (hS : S w.drew) (h : WO P N ds os (onlyN (W P N ds Q y)) S is bs l w.drew) : W P N ds Q (.seq (.region id os.toArray true) y) l w :=
  W_seq (W_drN S is bs hm hok hS h)
theorem oN (h : Q .normal l w) : WO P N ds os Q S [] [] l w := fun _ ha => wpOrd_nil ⟨_, ha, h⟩
theorem permute_cons {o : Oper} (ho : os[i]? = some o) : permute os (i :: is) = o :: permute os is := by
  show os.getD i default :: permute os is = _
  rw [List.getD_eq_getElem?_getD, ho]
  rfl
theorem oY (ho : os[i]? = some ⟨some d, op, ty, pos, aft, none⟩) (hx : ∀ w, S w → X P l op ty w v w) (hd : Nat.blt d N = true) (h : WO P N ds os Q S is bs ((d, v) :: l) w) : WO P N ds os Q S (i :: is) (true :: bs) l w := fun a ha => by
  rw [permute_cons ho]
  exact wpOrd_yes v rfl (fun w hw => hx w hw _ ha.knows) (h _ (ha.put hd v))
theorem yield_of {ops : Array Oper} {a : Act} (ha : Rep N ds l a) (hj : (ops[j]?).bind (·.dst) = some g) (hg : lk l g = some (.bool b)) (hN : Nat.blt g N = true) : yielded ops a.tmps j = some b := by
  have hs : g < a.tmps.size := by rw [ha.size]; exact of_decide_eq_true (by simpa [Nat.blt_eq] using hN)
  have hv := ha.val g _ hg
  unfold yielded
  rw [hj]
  simp only [Option.bind_some]
  rw [Array.getElem?_eq_getElem hs]
  simp only [Array.getD_eq_getD_getElem?, Array.getElem?_eq_getElem hs, Option.getD_some] at hv
  rw [hv]
theorem oYg (ho : os[i]? = some ⟨some d, op, ty, pos, aft, some (j, b)⟩) (hj : (os.toArray[j]?).bind (·.dst) = some g) (hg : lk l g = some (.bool b)) (hN : Nat.blt g N = true) (hx : ∀ w, S w → X P l op ty w v w) (hd : Nat.blt d N = true) (h : WO P N ds os Q S is bs ((d, v) :: l) w) : WO P N ds os Q S (i :: is) (true :: bs) l w := fun a ha => by
  rw [permute_cons ho]
  exact wpOrd_yes v (by simp [Region.wanted, yield_of ha hj hg hN]) (fun w hw => hx w hw _ ha.knows) (h _ (ha.put hd v))
theorem oNg {m : Bool} (ho : os[i]? = some ⟨some d, op, ty, pos, aft, some (j, b)⟩) (hj : (os.toArray[j]?).bind (·.dst) = some g) (hg : lk l g = some (.bool !b)) (hN : Nat.blt g N = true) (hS : S w) (hd : Nat.blt d N = true) (h : WO P N ds os Q S is bs ((d, undef) :: l) w) : WO P N ds os Q S (i :: is) (m :: bs) l w := fun a ha => by
  rw [permute_cons ho]
  have hw : Region.wanted ⟨some d, op, ty, pos, aft, some (j, b)⟩ (yielded os.toArray a.tmps) = false := by simp [Region.wanted, yield_of ha hj hg hN]
  cases m with
  | true => exact wpOrd_no hw (h _ (ha.put hd undef))
  | false => exact wpOrd_alone_no hw hS (h _ (ha.put hd undef))
/-- an operation that comes up alone -/
theorem oA (ho : os[i]? = some ⟨some d, op, ty, pos, aft, none⟩) (hx : X P l op ty w v w') (hS : S w') (hd : Nat.blt d N = true) (h : WO P N ds os Q S is bs ((d, v) :: l) w') : WO P N ds os Q S (i :: is) (false :: bs) l w := fun a ha => by
  rw [permute_cons ho]
  exact wpOrd_run v w' rfl (hx _ ha.knows) hS (h _ (ha.put hd v))
/-- any plain step that comes up alone -/
theorem oL {o : Oper} (ho : os[i]? = some o) (h : ∀ Q', (∀ l w, S w → WO P N ds os Q S is bs l w → Q' .normal l w) → (∀ c l w, Q (.panic c) l w → Q' (.panic c) l w) → WL P N ds os.toArray Q' [o] l w) : WO P N ds os Q S (i :: is) (false :: bs) l w := fun a ha => by
  rw [permute_cons ho]
  have := h (fun e l w => match e with | .normal => S w ∧ WO P N ds os Q S is bs l w | .panic c => Q (.panic c) l w | _ => False) (fun l w hs h => ⟨hs, h⟩) (fun c l w h => h) a ha
  unfold wpList at this
  unfold wpOrd
  split
  · rename_i hw
    rw [if_pos hw] at this
    rcases this with this | ⟨_, a0, w0, hq⟩
    · unfold Oper.wp at this ⊢
      revert this
      generalize (execOp a.eval o).run P w = res
      intro this
      unfold Oper.upon at this ⊢
      split at this
      · simp only [wpList] at this; obtain ⟨l', hr, hs, h⟩ := this; exact ⟨hs, h _ hr⟩
      · simp only [wpList] at this; obtain ⟨l', hr, hs, h⟩ := this; exact ⟨hs, h _ hr⟩
      · simp only [wpList] at this; obtain ⟨l', hr, hs, h⟩ := this; exact ⟨hs, h _ hr⟩
      · refine Calls.mono this fun e w' h => ?_
        cases e with
        | returned v => simp only [wpList] at h; obtain ⟨l', hr, hs, h⟩ := h; exact ⟨hs, h _ hr⟩
        | panicked c => exact h
        | outgrown => obtain ⟨a0, w0, l0, h1, h2⟩ := h; exact h2.elim
      · refine Rows.mono this fun v w' h => ?_
        simp only [wpList] at h; obtain ⟨l', hr, hs, h⟩ := h; exact ⟨hs, h _ hr⟩
      · exact this
      · exact this.elim
    · obtain ⟨l0, _, h2⟩ := hq; exact h2.elim
  · rename_i hw
    rw [if_neg hw] at this
    simp only [wpList] at this
    obtain ⟨l', hr, hs, h⟩ := this
    exact ⟨hs, h _ hr⟩
end
end Go.Proofs.YtnijmegalgoipaaGreatDoor
