/- A function that defers one closure, in the walk of my own. -/
import Derived.Test.YtnijmegalgoipaaGreatDoorEnvD
import Derived.Defers
import Derived.Recover
namespace Go.Proofs.YtnijmegalgoipaaGreatDoor
open Go.RowKit
def okL : Env → Array Value → Prop
  | [], _ => True
  | (t, v) :: r, a => a.getD t undef = v ∧ okL r a
theorem okL_val : ∀ {l : Env} {a : Array Value}, okL l a → ∀ t v, lk l t = some v → a.getD t undef = v
  | [], _, _, _, _, h => by cases h
  | (d, u) :: r, a, hs, t, v, h => by
    unfold lk at h
    cases ht : Nat.beq t d with
    | true =>
      rw [ht] at h
      have e : t = d := Nat.eq_of_beq_eq_true ht
      subst e
      simp only [cond_true, Option.some.injEq] at h
      subst h
      exact hs.1
    | false =>
      rw [ht] at h
      exact okL_val hs.2 t v h
theorem W_out {P : Program} {N : Nat} {ds : List Deferred} {Q : Post} {Q' : Exit → Act → World → Prop} {c : Code} {l : Env} {w : World} {a : Act} (h : W P N ds Q c l w) (hs : a.tmps.size = N) (hd : a.defers = ds) (hv : okL l a.tmps)
    (hq : ∀ e l a w, Rep N ds l a → Q e l w → Q' e a w) : c.wp P Q' a w :=
  Code.wp_mono (fun e a w hx => by obtain ⟨l, hr, hx⟩ := hx; exact hq e l a w hr hx) (h a ⟨hs, hd, okL_val hv⟩)
/-- what is asked where the function is left: its one deferred call is made, then it returns -/
def fnPostD (P : Program) (fn : Func) (f : FuncId) (dargs : Array Value) (R : Ending → World → Prop) : Post := fun e l w =>
  ∃ u, u ≠ FrameMode.run ∧ (match e with | .normal => u = .returning | .ret => u = .returning | .panic c => u = .panicking c | _ => False) ∧
    CallsD P f dargs u w fun e u' w' => ∃ x, e = .returned x ∧ settle u' = .returning ∧ ∃ v, (∀ a : Array Value, (∀ t v, lk l t = some v → a.getD t undef = v) → (results fn a).run P w' = .ok v w') ∧ R (.returned v) w'
theorem fnPostD_out {P : Program} {fn : Func} {f : FuncId} {fn' : Func} {c' : Code} {cap : List Value} {R : Ending → World → Prop} {N : Nat} (hf : P.funcs[f]? = some fn') (hb : fn'.body = some c') (hname : (fn'.name == "runtime.NumGoroutine") = false) (e : Exit) (l : Env) (a : Act) (w : World)
    (ha : Rep N [{ target := .fn (.func f) cap.toArray, args := #[] }] l a) (h : fnPostD P fn f cap.toArray R e l w) : bodyPostD P fn R e a w := by
  obtain ⟨u, hu, he, hc⟩ := h
  have h2 : fn'.name ≠ "runtime.NumGoroutine" := by simpa using hname
  have key : Leaves P fn a.tmps R a.defers u w := by
    rw [ha.defers]
    refine ⟨hu, .func f, cap.toArray, f, cap.toArray, rfl, ?_, ?_⟩
    · simp [invoke, callFunc, hf, hb, h2]
    · refine CallsD.mono hc fun e u' w' hq => ?_
      obtain ⟨x, rfl, hs, v, hr, hR⟩ := hq
      show Leaves P fn a.tmps R [] (settle u') w'
      rw [hs]
      exact ⟨v, hr _ ha.val, hR⟩
  cases e with
  | normal => obtain rfl := he; exact key
  | ret => obtain rfl := he; exact key
  | panic c => obtain rfl := he; exact key
  | _ => exact he.elim
theorem W_enterD {P : Program} {f g : FuncId} {fn fn' : Func} {x rest c' : Code} {args : List Value} {w : World} {R : Ending → World → Prop} {id d : Nat} {caps : List Operand} {ty ty2 : TypeId} {p1 p2 : String} {a1 a2 : Array Edge} {ats : Array TypeId} (N : Nat) (hf : P.funcs[f]? = some fn)
    (hb : fn.body = some (.seq x (.seq (.region id [⟨some d, .makeFunc (.func g) #[] caps.toArray, ty, p1, a1, none⟩, ⟨none, .defer { callee := .value (.tmp d), args := #[], argTypes := ats }, ty2, p2, a2, none⟩].toArray false) rest)))
    (hN : fn.ntmps = N) (hn : Nat.ble args.length N = true) (hd : Nat.blt d N = true) (hg : P.funcs[g]? = some fn') (hgb : fn'.body = some c') (hname : (fn'.name == "runtime.NumGoroutine") = false)
    (h : W P N [] (thenQ (fun l w => ∃ cap : List Value, evs l caps = some cap ∧ W P N [{ target := .fn (.func g) cap.toArray, args := #[] }] (fnPostD P fn g cap.toArray R) rest ((d, .func (.func g) #[] cap.toArray) :: l) w) (fun _ _ _ => False)) x (env0 args) w) : Calls P f args.toArray w R := by
  have hn' : args.length ≤ N := Nat.le_of_ble_eq_true hn
  refine calls_of_wp_defers hf hb (wp_seq (Code.wp_mono (fun e a w hq => ?_) (h _ ⟨by simp; omega, rfl, fun t v ht => ?_⟩)))
  · obtain ⟨l, hr, hq⟩ := hq
    cases e with
    | normal =>
      obtain ⟨cap, hc, hW⟩ := hq
      show Code.wp P _ _ _ _
      refine wp_seq (wp_region_lit ?_)
      refine wpList_plain rfl fun K hK => ?_
      have hcap := evs_map hr.knows hc
      unfold Oper.wp execOp
      simp only [List.map_toArray, List.map_nil, Instr.makeFunc, Sem.run_bind, Sem.run_pure, Result.andThen_ok, Oper.upon_value]
      rw [show List.map a.eval caps = cap from hcap]
      refine hK _ _ (wpList_plain rfl fun K2 hK2 => ?_)
      have hput := hr.put hd (.func (.func g) #[] cap.toArray)
      have he := hput.knows (.tmp d) (.func (.func g) #[] cap.toArray) (by show (bif Nat.beq d d then _ else _) = _; rw [show Nat.beq d d = true from Nat.beq_refl d]; rfl)
      unfold Oper.wp execOp
      simp only [resolve, he, Deferred.ofValue, Sem.run_bind, Sem.run_pure, Result.andThen_ok, List.map_toArray, List.map_nil, Oper.upon_defer]
      refine hK2 _ _ (wpList_nil ?_)
      show Code.wp P rest _ _ _
      have hrep : Rep N [{ target := .fn (.func g) cap.toArray, args := #[] }] ((d, .func (.func g) #[] cap.toArray) :: l) ({ (a.put (some d) (.func (.func g) #[] cap.toArray)) with defers := { target := .fn (.func g) cap.toArray, args := #[] } :: (a.put (some d) (.func (.func g) #[] cap.toArray)).defers }) :=
        ⟨hput.size, by rw [hput.defers], hput.val⟩
      exact Code.wp_mono (fun e a w hx => by obtain ⟨l, hr, hx⟩ := hx; exact fnPostD_out hg hgb hname e l a w hr hx) (hW _ hrep)
    | _ => exact hq.elim
  · obtain ⟨_, h2⟩ := lk_env0 args 0 t v ht
    rw [Array.getD_eq_getD_getElem?, Array.getElem?_append]
    have hlt : t < args.length := by
      rcases Nat.lt_or_ge t args.length with h | h
      · exact h
      · rw [List.getElem?_eq_none (by omega)] at h2; cases h2
    rw [if_pos (by simpa using hlt)]
    simp only [Nat.sub_zero] at h2
    simp [h2]
theorem dRet {P : Program} {fn : Func} {f : FuncId} {dargs : Array Value} {R : Ending → World → Prop} {l : Env} {w : World}
    (h : CallsD P f dargs .returning w fun e u' w' => ∃ x, e = .returned x ∧ settle u' = .returning ∧ ∃ v, (∀ a : Array Value, (∀ t v, lk l t = some v → a.getD t undef = v) → (results fn a).run P w' = .ok v w') ∧ R (.returned v) w') : fnPostD P fn f dargs R .ret l w :=
  ⟨.returning, by simp, rfl, h⟩
theorem dPan {P : Program} {fn : Func} {f : FuncId} {dargs : Array Value} {R : Ending → World → Prop} {l : Env} {w : World} {c : List PanicEntry}
    (h : CallsD P f dargs (.panicking c) w fun e u' w' => ∃ x, e = .returned x ∧ settle u' = .returning ∧ ∃ v, (∀ a : Array Value, (∀ t v, lk l t = some v → a.getD t undef = v) → (results fn a).run P w' = .ok v w') ∧ R (.returned v) w') : fnPostD P fn f dargs R (.panic c) l w :=
  ⟨.panicking c, by simp, rfl, h⟩
/-- two results that lie in cells -/
theorem resCC {P : Program} {fn : Func} {l : Env} {w : World} {x y : ResultVar} {v u : Value} (hf : fn.results = #[x, y]) (hx : ResVar P l w x v) (hy : ResVar P l w y u) (a : Array Value) (ha : ∀ t v, lk l t = some v → a.getD t undef = v) : (results fn a).run P w = .ok (.tuple #[v, u]) w := by
  have h1 := run_resVar hx a ha
  have h2 := run_resVar hy a ha
  rw [results_eq, hf]
  simp only [List.mapM_toArray, List.mapM_cons, List.mapM_nil, Sem.run_bind, Sem.run_pure, map_eq_pure_bind]
  simp only [h1, h2, Result.andThen_ok]
  rfl
end Go.Proofs.YtnijmegalgoipaaGreatDoor
