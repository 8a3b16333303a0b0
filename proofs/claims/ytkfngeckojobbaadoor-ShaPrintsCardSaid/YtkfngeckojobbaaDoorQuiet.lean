/- A region that draws its order, walked once, over a class of worlds of one's own: laws for loads and calls. -/
import Derived.Test.YtkfngeckojobbaaDoorMem2
import Derived.Deep.QuietTactic
import Derived.BigQuiet
namespace Go.Proofs.YtkfngeckojobbaaDoor
open Go.RowKit
section
variable {P : Program} {ops : Array Oper} {C : World → Prop} {Q : Act → Prop} {a : Act} {o : Oper} {rest : List Oper}
/-- a region that draws its order, its operations written out, over a class of worlds -/
theorem wp_region_class {id : Nat} {Q : Exit → Act → World → Prop} {a : Act} {w : World} {l : List Oper} (C : World → Prop) (hm : P.follows .mixedOrders = true) (hB : Region.lexB .any l.toArray = true) (hC : C w.drew)
    (h : wpQuiet P l.toArray C (fun a' => ∀ w', C w' → Q .normal a' w') l a) : (Code.region id l.toArray true).wp P Q a w :=
  wp_region_quiet (C := C) hm hB hC (by simpa using h)
/-- the load of a whole block -/
theorem wpQuiet_load_blk (hw : Region.wanted o (yielded ops a.tmps) = true) (ty : TypeId) (x : Operand) (ho : o.op = .load ty x) (g : Nat) (hx : a.eval x = .pointer (some ⟨g, 0, none⟩)) (t : TypeId) (cs : Array Value) {d : TypeDesc}
    (hC : ∀ w, C w → Blk w g t cs) (hu : P.underlying ty = some d) (hd : (match d with | .struct _ | .array _ _ => true | _ => false) = true) (hi : (P.info? ty).map (·.size) = some cs.size)
    (h : wpQuiet P ops C Q rest (a.put o.dst (.agg cs))) : wpQuiet P ops C Q (o :: rest) a :=
  BigFrame.wpQuiet_want hw fun _ hK => ⟨.agg cs, fun w hw' => by
    unfold Oper.quietAt execOp
    simp only [ho, hx, Instr.loadAt, Instr.sureAddr, Sem.run_bind, Sem.run_pure, Result.andThen_ok, run_loadVar_row w g t ty cs (0, 0) d (hC w hw') hu hd hi]
    exact ⟨rfl, rfl⟩, hK _ h⟩
/-- an operation that only reckons -/
theorem wpQuiet_pure (hw : Region.wanted o (yielded ops a.tmps) = true) (v : Value) (hr : ∀ w, C w → (execOp a.eval o).run P w = .ok (.value v) w)
    (h : wpQuiet P ops C Q rest (a.put o.dst v)) : wpQuiet P ops C Q (o :: rest) a :=
  BigFrame.wpQuiet_want hw fun _ hK => ⟨v, fun w hc => by
    unfold Oper.quietAt
    rw [hr w hc]
    exact ⟨rfl, rfl⟩, hK _ h⟩
/-- a move -/
theorem wpQuiet_move (hw : Region.wanted o (yielded ops a.tmps) = true) (x : Operand) (ho : o.op = .move x) (v : Value) (hv : a.eval x = v)
    (h : wpQuiet P ops C Q rest (a.put o.dst v)) : wpQuiet P ops C Q (o :: rest) a :=
  wpQuiet_pure hw v (fun w _ => by unfold execOp; simp only [ho, hv, Sem.run_pure]) h
/-- an operation whose guard says no -/
theorem wpQuiet_no (hw : Region.wanted o (yielded ops a.tmps) = false) (h : wpQuiet P ops C Q rest (a.put o.dst undef)) : wpQuiet P ops C Q (o :: rest) a :=
  BigFrame.wpQuiet_skip hw h
/-- the call of a Go function: one value, in every world of the class -/
theorem wpQuiet_call (hw : Region.wanted o (yielded ops a.tmps) = true) (f : FuncId) (args : List Operand) (ats : Array TypeId) (ho : o.op = .call { callee := .value (.func f), args := args.toArray, argTypes := ats })
    {fn : Func} (hf : P.funcs[f]? = some fn) {c : Code} (hb : fn.body = some c) (hname : (fn.name == "runtime.NumGoroutine") = false)
    (vs : List Value) (hvs : args.map a.eval = vs) (v : Value) (hc : ∀ w, C w → Calls P f vs.toArray w (fun e w' => e = .returned v ∧ C w'))
    (h : wpQuiet P ops C Q rest (a.put o.dst v)) : wpQuiet P ops C Q (o :: rest) a :=
  BigFrame.wpQuiet_want hw fun _ hK => ⟨v, fun w hw' => by
    have h1 := hc w hw'
    unfold Oper.quietAt execOp
    have h2 : fn.name ≠ "runtime.NumGoroutine" := by simpa using hname
    simp only [ho, resolve, invoke]
    simp [Deferred.ofValue, Act.eval, callFunc, hf, hb, h2, mark, ← hvs] at h1 ⊢
    exact ⟨rfl, h1⟩, hK _ h⟩
end
end Go.Proofs.YtkfngeckojobbaaDoor
