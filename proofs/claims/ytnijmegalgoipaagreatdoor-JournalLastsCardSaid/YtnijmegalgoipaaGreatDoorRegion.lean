/- A region that draws its order, walked once, in an order of one's own (that of the text, wp_region_ord, or a given one, wp_region_perm; wip/ord.py prints one): what yields in every world that meets S is taken first (mark true), everything else must come up alone (mark false). One check of the order for the whole region. -/
import Derived.Test.YtnijmegalgoipaaGreatDoorMem2
import Derived.OrdersHeld
import Derived.Deep.QuietTactic
import Derived.BigQuiet
namespace Go.Proofs.YtnijmegalgoipaaGreatDoor
open Go.RowKit
section
variable {P : Program} {ops : Array Oper} {Q : Exit → Act → World → Prop} {S : World → Prop} {a : Act} {w : World} {o : Oper} {l : List Oper} {bs : List Bool}
/-- may the operations come up so, from number k on? -/
def ordOk (ops : Array Oper) : List Bool → Nat → Array Bool → Bool
  | [], _, listed => (Region.ready .any ops listed).isEmpty
  | true :: r, i, listed => Region.free .any ops listed i && (Region.ready .any ops listed).contains i && ordOk ops r (i + 1) (listed.setIfInBounds i true)
  | false :: r, i, listed => (Region.ready .any ops listed == [i]) && ordOk ops r (i + 1) (listed.setIfInBounds i true)
def wpOrd (P : Program) (ops : Array Oper) (Q : Exit → Act → World → Prop) (S : World → Prop) : List Oper → List Bool → Act → World → Prop
  | o :: l, true :: r, a, w => ∃ v, YieldsIf P ops S o v a ∧ wpOrd P ops Q S l r (a.put o.dst v) w
  | o :: l, false :: r, a, w => if Region.wanted o (yielded ops a.tmps) then o.wp P a w (fun a' w' => S w' ∧ wpOrd P ops Q S l r a' w') Q else S w ∧ wpOrd P ops Q S l r (a.put o.dst undef) w
  | _, _, a, w => Q .normal a w
theorem wpAnyH_of_ord (hs : Region.noSelect ops = true) (hQ : ∀ c a d v w, Q (.panic c) (a.put d v) w → Q (.panic c) a w) :
    ∀ (l : List Oper) (r : List Bool) (k : Nat) (listed : Array Bool) (a : Act) (w : World), (∀ j, l[j]? = ops[k + j]?) → r.length = l.length → ordOk ops r k listed = true → S w → wpOrd P ops Q S l r a w → wpAnyH P .any ops Q S l.length listed a w
  | [], [], k, listed, a, w, _, _, hok, _, h => wpAnyH_done (by simpa [ordOk] using hok) h _
  | o :: l, true :: r, k, listed, a, w, hl, hr, hok, hS, h => by
    simp only [ordOk, Bool.and_eq_true] at hok
    obtain ⟨v, hy, h⟩ := h
    have ho : ops[k]? = some o := by simpa using (hl 0).symm
    exact wpAnyH_take ho hs hok.1.1 hok.1.2 (fun c a w => hQ c a _ _ w) hy hS (wpAnyH_of_ord hs hQ l r (k + 1) _ _ _ (fun j => by have := hl (j + 1); simpa [Nat.add_assoc, Nat.add_comm 1 j] using this) (by simpa using hr) hok.2 hS h)
  | o :: l, false :: r, k, listed, a, w, hl, hr, hok, hS, h => by
    simp only [ordOk, Bool.and_eq_true, beq_iff_eq] at hok
    have ho : ops[k]? = some o := by simpa using (hl 0).symm
    refine wpAnyH_all hok.1 (by simp) fun j hj => ?_
    obtain rfl : j = k := by simpa using hj
    have hn : ∀ a' w', S w' ∧ wpOrd P ops Q S l r a' w' → S w' ∧ wpAnyH P .any ops Q S l.length (listed.setIfInBounds j true) a' w' := fun a' w' h' =>
      ⟨h'.1, wpAnyH_of_ord hs hQ l r (j + 1) _ _ _ (fun i => by have := hl (i + 1); simpa [Nat.add_assoc, Nat.add_comm 1 i] using this) (by simpa using hr) hok.2 h'.1 h'.2⟩
    refine wpOp_mono hn ?_
    unfold wpOp
    simp only [ho]
    unfold wpOrd at h
    split
    · rename_i hw; rw [if_pos hw] at h; exact .inl h
    · rename_i hw; rw [if_neg hw] at h; exact h
  | [], true :: _, _, _, _, _, _, hr, _, _, _ => by simp at hr
  | [], false :: _, _, _, _, _, _, hr, _, _, _ => by simp at hr
  | _ :: _, [], _, _, _, _, _, hr, _, _, _ => by simp at hr
/-- the beginning -/
theorem wp_region_ord {id : Nat} {l : List Oper} (S : World → Prop) (r : List Bool) (hm : P.follows .mixedOrders = true) (hok : (Region.noSelect l.toArray && ordOk l.toArray r 0 (Array.replicate l.toArray.size false) && (r.length == l.length)) = true)
    (hQ : ∀ c a d v w, Q (.panic c) (a.put d v) w → Q (.panic c) a w) (hS : S w.drew) (h : wpOrd P l.toArray Q S l r a w.drew) : (Code.region id l.toArray true).wp P Q a w := by
  simp only [Bool.and_eq_true, beq_iff_eq] at hok
  refine wp_region_held (S := S) hm ?_
  have := wpAnyH_of_ord hok.1.1 hQ l r 0 _ _ _ (by simp) hok.2 hok.1.2 hS h
  simpa using this
/-- the same in a given order -/
def permute (l : List Oper) : List Nat → List Oper
  | [] => []
  | i :: r => l.getD i default :: permute l r
def permOk (ops : Array Oper) : List Nat → List Bool → Array Bool → Bool
  | i :: is, true :: r, listed => decide (i < ops.size) && Region.free .any ops listed i && (Region.ready .any ops listed).contains i && permOk ops is r (listed.setIfInBounds i true)
  | i :: is, false :: r, listed => decide (i < ops.size) && (Region.ready .any ops listed == [i]) && permOk ops is r (listed.setIfInBounds i true)
  | [], [], listed => (Region.ready .any ops listed).isEmpty
  | _, _, _ => false
theorem wpAnyH_of_perm {l : List Oper} (hs : Region.noSelect l.toArray = true) (hQ : ∀ c a d v w, Q (.panic c) (a.put d v) w → Q (.panic c) a w) :
    ∀ (is : List Nat) (r : List Bool) (listed : Array Bool) (a : Act) (w : World), permOk l.toArray is r listed = true → S w → wpOrd P l.toArray Q S (permute l is) r a w → wpAnyH P .any l.toArray Q S is.length listed a w
  | [], [], listed, a, w, hok, _, h => wpAnyH_done (by simpa [permOk] using hok) h _
  | i :: is, true :: r, listed, a, w, hok, hS, h => by
    simp only [permOk, Bool.and_eq_true, decide_eq_true_eq] at hok
    obtain ⟨v, hy, h⟩ := h
    have hi : i < l.length := by simpa using hok.1.1.1
    have ho : l.toArray[i]? = some (l.getD i default) := by simp [hi]
    exact wpAnyH_take ho hs hok.1.1.2 hok.1.2 (fun c a w => hQ c a _ _ w) hy hS (wpAnyH_of_perm hs hQ is r _ _ _ hok.2 hS h)
  | i :: is, false :: r, listed, a, w, hok, hS, h => by
    simp only [permOk, Bool.and_eq_true, decide_eq_true_eq, beq_iff_eq] at hok
    have hi : i < l.length := by simpa using hok.1.1
    have ho : l.toArray[i]? = some (l.getD i default) := by simp [hi]
    refine wpAnyH_all hok.1.2 (by simp) fun j hj => ?_
    obtain rfl : j = i := by simpa using hj
    have hn : ∀ a' w', S w' ∧ wpOrd P l.toArray Q S (permute l is) r a' w' → S w' ∧ wpAnyH P .any l.toArray Q S is.length (listed.setIfInBounds j true) a' w' := fun a' w' h' =>
      ⟨h'.1, wpAnyH_of_perm hs hQ is r _ _ _ hok.2 h'.1 h'.2⟩
    refine wpOp_mono hn ?_
    unfold wpOp
    simp only [ho]
    unfold permute wpOrd at h
    split
    · rename_i hw; rw [if_pos hw] at h; exact .inl h
    · rename_i hw; rw [if_neg hw] at h; exact h
  | [], _ :: _, _, _, _, hok, _, _ => by simp [permOk] at hok
  | _ :: _, [], _, _, _, hok, _, _ => by simp [permOk] at hok
theorem wp_region_perm {id : Nat} {l : List Oper} (S : World → Prop) (is : List Nat) (r : List Bool) (hm : P.follows .mixedOrders = true) (hok : (Region.noSelect l.toArray && permOk l.toArray is r (Array.replicate l.toArray.size false) && (is.length == l.length)) = true)
    (hQ : ∀ c a d v w, Q (.panic c) (a.put d v) w → Q (.panic c) a w) (hS : S w.drew) (h : wpOrd P l.toArray Q S (permute l is) r a w.drew) : (Code.region id l.toArray true).wp P Q a w := by
  simp only [Bool.and_eq_true, beq_iff_eq] at hok
  refine wp_region_held (S := S) hm ?_
  have := wpAnyH_of_perm hok.1.1 hQ is r _ _ _ hok.1.2 hS h
  rw [hok.2] at this
  simpa using this
theorem wpOrd_nil (h : Q .normal a w) : wpOrd P ops Q S [] [] a w := h
/-- an operation that yields in every world that meets S -/
theorem wpOrd_yes (v : Value) (hw : Region.wanted o (yielded ops a.tmps) = true) (hr : ∀ w, S w → (execOp a.eval o).run P w = .ok (.value v) w)
    (h : wpOrd P ops Q S l bs (a.put o.dst v) w) : wpOrd P ops Q S (o :: l) (true :: bs) a w := ⟨v, .inl ⟨hw, hr⟩, h⟩
/-- an operation whose guard says no -/
theorem wpOrd_no (hw : Region.wanted o (yielded ops a.tmps) = false) (h : wpOrd P ops Q S l bs (a.put o.dst undef) w) : wpOrd P ops Q S (o :: l) (true :: bs) a w :=
  ⟨undef, .inr ⟨hw, rfl⟩, h⟩
theorem wpOrd_move (x : Operand) (v : Value) (hx : o.op = .move x) (hw : Region.wanted o (yielded ops a.tmps) = true) (hv : a.eval x = v)
    (h : wpOrd P ops Q S l bs (a.put o.dst v) w) : wpOrd P ops Q S (o :: l) (true :: bs) a w :=
  wpOrd_yes v hw (fun w _ => by unfold execOp; simp only [hx, hv, Sem.run_pure]) h
theorem wpOrd_load_blk (ty : TypeId) (x : Operand) (g : Nat) (t : TypeId) (cs : Array Value) {d : TypeDesc} (hop : o.op = .load ty x) (hw : Region.wanted o (yielded ops a.tmps) = true) (hx : a.eval x = .pointer (some ⟨g, 0, none⟩))
    (hC : ∀ w, S w → Blk w g t cs) (hu : P.underlying ty = some d) (hd : (match d with | .struct _ | .array _ _ => true | _ => false) = true) (hi : (P.info? ty).map (·.size) = some cs.size)
    (h : wpOrd P ops Q S l bs (a.put o.dst (.agg cs)) w) : wpOrd P ops Q S (o :: l) (true :: bs) a w :=
  wpOrd_yes (.agg cs) hw (fun w hw' => by
    unfold execOp
    simp only [hop, hx, Instr.loadAt, Instr.sureAddr, Sem.run_bind, Sem.run_pure, Result.andThen_ok, run_loadVar_row w g t ty cs (0, 0) d (hC w hw') hu hd hi]) h
/-- any operation that comes up alone -/
theorem wpOrd_alone (hw : Region.wanted o (yielded ops a.tmps) = true)
    (h : ∀ K : Act → World → Prop, (∀ a w, S w → wpOrd P ops Q S l bs a w → K a w) → o.wp P a w K Q) : wpOrd P ops Q S (o :: l) (false :: bs) a w := by
  unfold wpOrd
  rw [if_pos hw]
  exact h _ fun a w hS h => ⟨hS, h⟩
theorem wpOrd_alone_no (hw : Region.wanted o (yielded ops a.tmps) = false) (hS : S w) (h : wpOrd P ops Q S l bs (a.put o.dst undef) w) : wpOrd P ops Q S (o :: l) (false :: bs) a w := by
  unfold wpOrd
  rw [if_neg (by simp [hw])]
  exact ⟨hS, h⟩
/-- the call of a Go function -/
theorem wpOrd_call (f : FuncId) (args : List Operand) (ats : Array TypeId) {fn : Func} {c : Code} (vs : List Value) (hop : o.op = .call { callee := .value (.func f), args := args.toArray, argTypes := ats })
    (hw : Region.wanted o (yielded ops a.tmps) = true) (hf : P.funcs[f]? = some fn) (hb : fn.body = some c) (hname : (fn.name == "runtime.NumGoroutine") = false) (hvs : args.map a.eval = vs)
    (hc : Calls P f vs.toArray w (fun e w' => ∃ v, e = .returned v ∧ S w' ∧ wpOrd P ops Q S l bs (a.put o.dst v) w')) : wpOrd P ops Q S (o :: l) (false :: bs) a w :=
  wpOrd_alone hw fun K hK => by
    unfold Oper.wp execOp
    have h2 : fn.name ≠ "runtime.NumGoroutine" := by simpa using hname
    simp only [hop, resolve, invoke]
    simp [Deferred.ofValue, Act.eval, callFunc, hf, hb, h2, mark, ← hvs] at hc ⊢
    refine Calls.mono hc fun e w' h => ?_
    obtain ⟨v, rfl, hS, h⟩ := h
    exact hK _ _ hS h
/-- a load that comes up alone, or any other that runs to a value -/
theorem wpOrd_run (v : Value) (w' : World) (hw : Region.wanted o (yielded ops a.tmps) = true) (hr : (execOp a.eval o).run P w = .ok (.value v) w') (hS : S w')
    (h : wpOrd P ops Q S l bs (a.put o.dst v) w') : wpOrd P ops Q S (o :: l) (false :: bs) a w :=
  wpOrd_alone hw fun K hK => by
    unfold Oper.wp
    rw [hr]
    exact hK _ _ hS h
end
end Go.Proofs.YtnijmegalgoipaaGreatDoor
