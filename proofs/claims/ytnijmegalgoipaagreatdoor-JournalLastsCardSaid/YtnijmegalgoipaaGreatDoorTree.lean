/- Regions that draw their order, where more than one operation with an effect may come up: a tree of orders. -/
import Derived.Test.YtnijmegalgoipaaGreatDoorEnvD
namespace Go.Proofs.YtnijmegalgoipaaGreatDoor
open Go.RowKit
inductive Tr where
  | nil
  | yes (i : Nat) (t : Tr)
  | pick (r : Tr)
  | alt (i : Nat) (t r : Tr)
  | no
def Tr.main : Tr → Bool
  | .nil | .yes _ _ | .pick _ => true
  | _ => false
def Tr.alts : Tr → List Nat
  | .alt i _ r => i :: r.alts
  | _ => []
def Tr.high : Tr → Nat
  | .nil => 0
  | .yes _ t => t.high + 1
  | .pick r => r.high
  | .alt _ t r => max (t.high + 1) r.high
  | .no => 0
def trOk (ops : Array Oper) : Tr → Array Bool → Bool
  | .nil, listed => (Region.ready .any ops listed).isEmpty
  | .yes i t, listed => decide (i < ops.size) && Region.free .any ops listed i && (Region.ready .any ops listed).contains i && t.main && trOk ops t (listed.setIfInBounds i true)
  | .pick r, listed => (Region.ready .any ops listed == r.alts) && !r.alts.isEmpty && trOk ops r listed
  | .alt i t r, listed => decide (i < ops.size) && t.main && trOk ops t (listed.setIfInBounds i true) && trOk ops r listed
  | .no, _ => true
def wpTr (P : Program) (os : List Oper) (Q : Exit → Act → World → Prop) (S : World → Prop) : Tr → Act → World → Prop
  | .nil, a, w => Q .normal a w
  | .yes i t, a, w => ∃ v, YieldsIf P os.toArray S (os.getD i default) v a ∧ wpTr P os Q S t (a.put (os.getD i default).dst v) w
  | .pick r, a, w => wpTr P os Q S r a w
  | .alt i t r, a, w => (if Region.wanted (os.getD i default) (yielded os.toArray a.tmps) then (os.getD i default).wp P a w (fun a' w' => S w' ∧ wpTr P os Q S t a' w') Q else S w ∧ wpTr P os Q S t (a.put (os.getD i default).dst undef) w) ∧ wpTr P os Q S r a w
  | .no, _, _ => True
theorem wpAnyH_of_tr {P : Program} {l : List Oper} {Q : Exit → Act → World → Prop} {S : World → Prop} (hs : Region.noSelect l.toArray = true) (hQ : ∀ c a d v w, Q (.panic c) (a.put d v) w → Q (.panic c) a w) (t : Tr) :
    (t.main = true → ∀ n listed a w, trOk l.toArray t listed = true → t.high ≤ n → S w → wpTr P l Q S t a w → wpAnyH P .any l.toArray Q S n listed a w) ∧
    (∀ n listed a w, trOk l.toArray t listed = true → t.high ≤ n + 1 → S w → wpTr P l Q S t a w → ∀ j ∈ t.alts, wpOp P l.toArray Q j (fun a' w' => S w' ∧ wpAnyH P .any l.toArray Q S n (listed.setIfInBounds j true) a' w') a w) := by
  induction t with
  | nil =>
    refine ⟨fun _ n listed a w hok _ _ h => wpAnyH_done (by simpa [trOk] using hok) h _, fun n listed a w _ _ _ _ j hj => by cases hj⟩
  | yes i t ih =>
    refine ⟨fun _ n listed a w hok hn hS h => ?_, fun n listed a w _ _ _ _ j hj => by cases hj⟩
    simp only [trOk, Bool.and_eq_true, decide_eq_true_eq] at hok
    obtain ⟨v, hy, h⟩ := h
    have hi : i < l.length := by simpa using hok.1.1.1.1
    have ho : l.toArray[i]? = some (l.getD i default) := by simp [hi]
    simp only [Tr.high] at hn
    obtain ⟨n, rfl⟩ : ∃ m, n = m + 1 := ⟨n - 1, by omega⟩
    exact wpAnyH_take ho hs hok.1.1.1.2 hok.1.1.2 (fun c a w => hQ c a _ _ w) hy hS (ih.1 hok.1.2 n _ _ _ hok.2 (by omega) hS h)
  | pick r ih =>
    refine ⟨fun _ n listed a w hok hn hS h => ?_, fun n listed a w _ _ _ _ j hj => by cases hj⟩
    simp only [trOk, Bool.and_eq_true, beq_iff_eq] at hok
    have hne : r.alts ≠ [] := by have := hok.1.2; simpa using this
    simp only [Tr.high] at hn
    have h1 : 0 < n := by
      match r, hne with
      | .alt i t r', _ => simp only [Tr.high] at hn; omega
      | .nil, h => exact absurd rfl h
      | .yes _ _, h => exact absurd rfl h
      | .pick _, h => exact absurd rfl h
      | .no, h => exact absurd rfl h
    obtain ⟨n, rfl⟩ : ∃ m, n = m + 1 := ⟨n - 1, by omega⟩
    exact wpAnyH_all hok.1.1 hne fun j hj => ih.2 n listed a w hok.2 hn hS h j hj
  | alt i t r iht ihr =>
    refine ⟨fun h => (by cases h), fun n listed a w hok hn hS h j hj => ?_⟩
    simp only [trOk, Bool.and_eq_true, decide_eq_true_eq] at hok
    simp only [Tr.high] at hn
    rcases List.mem_cons.1 hj with rfl | hj
    · have hi : j < l.length := by simpa using hok.1.1.1
      have ho : l.toArray[j]? = some (l.getD j default) := by simp [hi]
      have hn' : ∀ a' w', S w' ∧ wpTr P l Q S t a' w' → S w' ∧ wpAnyH P .any l.toArray Q S n (listed.setIfInBounds j true) a' w' := fun a' w' h' =>
        ⟨h'.1, iht.1 hok.1.1.2 n _ _ _ hok.1.2 (by omega) h'.1 h'.2⟩
      refine wpOp_mono hn' ?_
      unfold wpOp
      simp only [ho]
      have h := h.1
      split
      · rename_i hw; rw [if_pos hw] at h; exact .inl h
      · rename_i hw; rw [if_neg hw] at h; exact h
    · exact ihr.2 n listed a w hok.2 (by omega) hS h.2 j hj
  | no =>
    exact ⟨fun h => (by cases h), fun n listed a w _ _ _ _ j hj => by cases hj⟩
theorem wp_region_tr {P : Program} {Q : Exit → Act → World → Prop} {a : Act} {w : World} {id : Nat} {l : List Oper} (S : World → Prop) (t : Tr) (hm : P.follows .mixedOrders = true) (hok : (Region.noSelect l.toArray && t.main && trOk l.toArray t (Array.replicate l.toArray.size false) && decide (t.high ≤ l.length)) = true)
    (hQ : ∀ c a d v w, Q (.panic c) (a.put d v) w → Q (.panic c) a w) (hS : S w.drew) (h : wpTr P l Q S t a w.drew) : (Code.region id l.toArray true).wp P Q a w := by
  simp only [Bool.and_eq_true, decide_eq_true_eq] at hok
  refine wp_region_held (S := S) hm ?_
  have := (wpAnyH_of_tr hok.1.1.1 hQ t).1 hok.1.1.2 l.length _ a w.drew hok.1.2 hok.2 hS h
  simpa using this
/- ---------- in the walk ---------- -/
def WT (P : Program) (N : Nat) (ds : List Deferred) (os : List Oper) (Q : Post) (S : World → Prop) (t : Tr) (l : Env) (w : World) : Prop :=
  ∀ a, Rep N ds l a → wpTr P os (lift N ds Q) S t a w
section
variable {P : Program} {N : Nat} {ds : List Deferred} {Q : Post} {S : World → Prop} {os : List Oper} {t r : Tr} {l : Env} {w w' : World} {op : Op} {ty : TypeId} {pos : String} {aft : Array Edge} {d i j g : Nat} {v : Value} {b : Bool}
theorem W_tr {id : Nat} (S : World → Prop) (t : Tr) (hm : P.follows .mixedOrders = true) (hok : (Region.noSelect os.toArray && t.main && trOk os.toArray t (Array.replicate os.toArray.size false) && decide (t.high ≤ os.length)) = true)
    (hQ : ∀ c l w, Q (.panic c) l w → Q (.panic c) [] w) (hS : S w.drew) (h : WT P N ds os Q S t l w.drew) : W P N ds Q (.region id os.toArray true) l w := fun a ha =>
  wp_region_tr S t hm hok (fun c a d v w hq => by
    obtain ⟨l', hr, hq⟩ := hq
    refine ⟨[], ⟨?_, ?_, fun t v h => by cases h⟩, hQ c l' w hq⟩
    · have := hr.size
      cases d <;> simpa [Act.put] using this
    · have := hr.defers
      cases d <;> simpa [Act.put] using this) hS (h a ha)
theorem W_trN {id : Nat} (S : World → Prop) (t : Tr) (hm : P.follows .mixedOrders = true) (hok : (Region.noSelect os.toArray && t.main && trOk os.toArray t (Array.replicate os.toArray.size false) && decide (t.high ≤ os.length)) = true)
    (hS : S w.drew) (h : WT P N ds os (onlyN (fun l w => Q .normal l w)) S t l w.drew) : W P N ds Q (.region id os.toArray true) l w := fun a ha =>
  Code.wp_mono (fun e a w hq => by
    obtain ⟨l', hr, hq⟩ := hq
    refine ⟨l', hr, ?_⟩
    cases e with
    | normal => exact hq
    | _ => exact hq.elim) (W_tr (Q := onlyN (fun l w => Q .normal l w)) S t hm hok (fun _ _ _ h => h) hS h a ha)
theorem W_trsN {id : Nat} {y : Code} (S : World → Prop) (t : Tr) (hm : P.follows .mixedOrders = true) (hok : (Region.noSelect os.toArray && t.main && trOk os.toArray t (Array.replicate os.toArray.size false) && decide (t.high ≤ os.length)) = true)
    (hS : S w.drew) (h : WT P N ds os (onlyN (W P N ds Q y)) S t l w.drew) : W P N ds Q (.seq (.region id os.toArray true) y) l w :=
  W_seq (W_trN S t hm hok hS h)
theorem uN (h : Q .normal l w) : WT P N ds os Q S .nil l w := fun _ ha => ⟨_, ha, h⟩
theorem getD_of {o : Oper} (ho : os[i]? = some o) : os.getD i default = o := by
  rw [List.getD_eq_getElem?_getD, ho]; rfl
theorem uY (ho : os[i]? = some ⟨some d, op, ty, pos, aft, none⟩) (hx : ∀ w, S w → X P l op ty w v w) (hd : Nat.blt d N = true) (h : WT P N ds os Q S t ((d, v) :: l) w) : WT P N ds os Q S (.yes i t) l w := fun a ha => by
  show ∃ v, _
  rw [getD_of ho]
  exact ⟨v, .inl ⟨rfl, fun w hw => hx w hw _ ha.knows⟩, h _ (ha.put hd v)⟩
theorem uYg (ho : os[i]? = some ⟨some d, op, ty, pos, aft, some (j, b)⟩) (hj : (os.toArray[j]?).bind (·.dst) = some g) (hg : lk l g = some (.bool b)) (hN : Nat.blt g N = true) (hx : ∀ w, S w → X P l op ty w v w) (hd : Nat.blt d N = true) (h : WT P N ds os Q S t ((d, v) :: l) w) : WT P N ds os Q S (.yes i t) l w := fun a ha => by
  show ∃ v, _
  rw [getD_of ho]
  exact ⟨v, .inl ⟨by simp [Region.wanted, yield_of ha hj hg hN], fun w hw => hx w hw _ ha.knows⟩, h _ (ha.put hd v)⟩
theorem uNg (ho : os[i]? = some ⟨some d, op, ty, pos, aft, some (j, b)⟩) (hj : (os.toArray[j]?).bind (·.dst) = some g) (hg : lk l g = some (.bool !b)) (hN : Nat.blt g N = true) (hd : Nat.blt d N = true) (h : WT P N ds os Q S t ((d, undef) :: l) w) : WT P N ds os Q S (.yes i t) l w := fun a ha => by
  show ∃ v, _
  rw [getD_of ho]
  exact ⟨undef, .inr ⟨by simp [Region.wanted, yield_of ha hj hg hN], rfl⟩, h _ (ha.put hd undef)⟩
theorem uP (h : WT P N ds os Q S r l w) : WT P N ds os Q S (.pick r) l w := fun a ha => h a ha
theorem u0 : WT P N ds os Q S .no l w := fun _ _ => trivial
/-- any plain step that may come up -/
theorem uA {o : Oper} (ho : os[i]? = some o) (h : ∀ Q', (∀ l w, S w → WT P N ds os Q S t l w → Q' .normal l w) → (∀ c l w, Q (.panic c) l w → Q' (.panic c) l w) → WL P N ds os.toArray Q' [o] l w) (hr : WT P N ds os Q S r l w) : WT P N ds os Q S (.alt i t r) l w := fun a ha => by
  refine ⟨?_, hr a ha⟩
  rw [getD_of ho]
  have := h (fun e l w => match e with | .normal => S w ∧ WT P N ds os Q S t l w | .panic c => Q (.panic c) l w | _ => False) (fun l w hs h => ⟨hs, h⟩) (fun c l w h => h) a ha
  unfold wpList at this
  split
  · rename_i hw
    rw [if_pos hw] at this
    rcases this with this | ⟨_, a0, w0, hq⟩
    · unfold Oper.wp at this ⊢
      revert this
      generalize (execOp a.eval o).run P w = res
      intro this
      unfold Oper.upon at this ⊢
      split at this
      · simp only [wpList] at this; obtain ⟨l', hr, hs, h⟩ := this; exact ⟨hs, h _ hr⟩
      · simp only [wpList] at this; obtain ⟨l', hr, hs, h⟩ := this; exact ⟨hs, h _ hr⟩
      · simp only [wpList] at this; obtain ⟨l', hr, hs, h⟩ := this; exact ⟨hs, h _ hr⟩
      · refine Calls.mono this fun e w' h => ?_
        cases e with
        | returned v => simp only [wpList] at h; obtain ⟨l', hr, hs, h⟩ := h; exact ⟨hs, h _ hr⟩
        | panicked c => exact h
        | outgrown => obtain ⟨a0, w0, l0, h1, h2⟩ := h; exact h2.elim
      · refine Rows.mono this fun v w' h => ?_
        simp only [wpList] at h; obtain ⟨l', hr, hs, h⟩ := h; exact ⟨hs, h _ hr⟩
      · exact this
      · exact this.elim
    · obtain ⟨l0, _, h2⟩ := hq; exact h2.elim
  · rename_i hw
    rw [if_neg hw] at this
    simp only [wpList] at this
    obtain ⟨l', hr, hs, h⟩ := this
    exact ⟨hs, h _ hr⟩
end
end Go.Proofs.YtnijmegalgoipaaGreatDoor
