/- Calls (Op) and their lists among the arguments; a world for the witness. -/
import Derived.Test.YtnijmegalgoipaaGreatDoorOpenRows
import Derived.Test.YtnijmegalgoipaaGreatDoorRowsRow
import Derived.Test.YtnijmegalgoipaaGreatDoorOps
import Derived.Test.YtnijmegalgoipaaGreatDoorMem2
namespace Go.Proofs.YtnijmegalgoipaaGreatDoor
open Go.ChangeShapes Go.WideShapes Go.ChangeAt Go.RowKit
/-- a call as it lies -/
structure OpM where
  ask : Int
  name : List UInt8
  to_ : List UInt8
  at_ : Int
  n : Int
  data : List UInt8
  picks : List Int
  vp : Value
def OpM.cells (o : OpM) : List Value := [.int .i64 o.ask, str o.name, str o.to_, .int .i64 o.at_, .int .i64 o.n, str o.data, o.vp]
theorem OpM.cells_length (o : OpM) : o.cells.length = 7 := rfl
/-- integers within their kind, and what Picks holds -/
structure OpM.ok (w : World) (o : OpM) : Prop where
  n : -9223372036854775808 ≤ o.n ∧ o.n ≤ 9223372036854775807
  at_ : -9223372036854775808 ≤ o.at_ ∧ o.at_ ≤ 9223372036854775807
  picks : Reads w 1 o.vp o.picks.length (o.picks.map fun k => .int .i64 k)
theorem OpM.ok.bel {w w' : World} {o : OpM} (h : o.ok w) (hb : Below w.heap.size w w') : o.ok w' := ⟨h.n, h.at_, h.picks.belowAll hb⟩
def OpsAt (w : World) (v : Value) (l : List OpM) : Prop := Reads w 7 v l.length (l.flatMap OpM.cells) ∧ ∀ o ∈ l, o.ok w
theorem OpsAt.bel {w w' : World} {v : Value} {l : List OpM} (h : OpsAt w v l) (hb : Below w.heap.size w w') : OpsAt w' v l := ⟨h.1.belowAll hb, fun o ho => (h.2 o ho).bel hb⟩
instance : Inhabited OpM := ⟨⟨0, [], [], 0, 0, [], [], .bool false⟩⟩
theorem flat_int1 : ∀ l : List Int, l.flatMap (fun q => [Value.int .i64 q]) = l.map fun k => .int .i64 k
  | [] => rfl
  | a :: l => by rw [List.flatMap_cons, flat_int1 l]; rfl
theorem len7 {α : Type} {l : List α} (h : l.length = 7) : ∃ a b c d e f g, l = [a, b, c, d, e, f, g] := by
  match l, h with
  | [a, b, c, d, e, f, g], _ => exact ⟨a, b, c, d, e, f, g, rfl⟩
section
variable {H : Type} {enc : TypeId × Value → H} {W : World} {base : Nat} {sp : Nat → Bool} {held : Bool}
theorem trod_struct7 {P : Program} {t : TypeId} {f0 f1 f2 f3 f4 f5 f6 : Field} {fuel : Nat} {cs : List Value} {x : DataW H × List MemPlace} (ht : P.underlying t = some (.struct #[f0, f1, f2, f3, f4, f5, f6])) (h : DataW.trod enc P W base sp held fuel t cs = some x) :
    ∃ y0 y1 y2 y3 y4 y5 y6 n, cs.length = P.cellsOf t ∧ DataW.trod enc P W base sp held n f0.type ((cs.drop f0.offset).take (P.cellsOf f0.type)) = some y0 ∧ DataW.trod enc P W base sp held n f1.type ((cs.drop f1.offset).take (P.cellsOf f1.type)) = some y1 ∧
      DataW.trod enc P W base sp held n f2.type ((cs.drop f2.offset).take (P.cellsOf f2.type)) = some y2 ∧ DataW.trod enc P W base sp held n f3.type ((cs.drop f3.offset).take (P.cellsOf f3.type)) = some y3 ∧ DataW.trod enc P W base sp held n f4.type ((cs.drop f4.offset).take (P.cellsOf f4.type)) = some y4 ∧
      DataW.trod enc P W base sp held n f5.type ((cs.drop f5.offset).take (P.cellsOf f5.type)) = some y5 ∧ DataW.trod enc P W base sp held n f6.type ((cs.drop f6.offset).take (P.cellsOf f6.type)) = some y6 := by
  obtain ⟨xs, n, _, rfl, hl, hlen, hf⟩ := DataW.trod_struct ht h
  match xs, hlen with
  | [y0, y1, y2, y3, y4, y5, y6], _ => exact ⟨y0, y1, y2, y3, y4, y5, y6, n, hl, by simpa using hf 0 f0 rfl, by simpa using hf 1 f1 rfl, by simpa using hf 2 f2 rfl, by simpa using hf 3 f3 rfl, by simpa using hf 4 f4 rfl, by simpa using hf 5 f5 rfl, by simpa using hf 6 f6 rfl⟩
theorem cInt : Tryz.prog.cellsOf 3 = 1 := by kernel_rfl
theorem cStr : Tryz.prog.cellsOf 9 = 1 := by kernel_rfl
theorem cInts : Tryz.prog.cellsOf 34 = 1 := by kernel_rfl
theorem cOp : Tryz.prog.cellsOf 36 = 7 := by kernel_rfl
theorem wf_i64 {n : Int} (h : (Lit.int .i64 n).wf = true) : -9223372036854775808 ≤ n ∧ n ≤ 9223372036854775807 := by
  simp only [Lit.wf, Bool.and_eq_true, decide_eq_true_eq] at h
  exact h
theorem open_intL (fuel : Nat) (cs : List Value) (x : DataW H × List MemPlace) (h : DataW.trod enc Tryz.prog W base sp held fuel 3 cs = some x) : ∃ n : Int, cs = [.int .i64 n] ∧ True := by
  obtain ⟨n, e, _, _⟩ := DataW.trod_int Tryz.underlying3 h
  exact ⟨n, e, trivial⟩
theorem open_intsL (fuel : Nat) (cs : List Value) (x : DataW H × List MemPlace) (h : DataW.trod enc Tryz.prog W base sp held fuel 34 cs = some x) : ∃ (v : Value) (l : List Int), cs = [v] ∧ Reads W 1 v l.length (l.map fun k => .int .i64 k) := by
  obtain ⟨v, l, hv, hR, _⟩ := open_rows (fun n : Int => [Value.int .i64 n]) (fun _ => True) Tryz.underlying34 cInt (by decide) open_intL h
  rw [flat_int1] at hR
  exact ⟨v, l, hv, hR⟩
set_option maxRecDepth 4000 in
theorem open_op1 (fuel : Nat) (cs : List Value) (x : DataW H × List MemPlace) (h : DataW.trod enc Tryz.prog W base sp held fuel 36 cs = some x) : ∃ o : OpM, cs = o.cells ∧ o.ok W := by
  obtain ⟨y0, y1, y2, y3, y4, y5, y6, n, hl, h0, h1, h2, h3, h4, h5, h6⟩ := trod_struct7 Tryz.underlying36 h
  rw [cOp] at hl
  obtain ⟨a, b, c, d, e, f, g, rfl⟩ := len7 hl
  simp only [cInt, cStr, cInts] at h0 h1 h2 h3 h4 h5 h6
  obtain ⟨k0, e0, _, _⟩ := DataW.trod_int Tryz.underlying3 h0
  obtain ⟨s1, e1, _, _⟩ := DataW.trod_string Tryz.underlying9 h1
  obtain ⟨s2, e2, _, _⟩ := DataW.trod_string Tryz.underlying9 h2
  obtain ⟨k3, e3, _, w3⟩ := DataW.trod_int Tryz.underlying3 h3
  obtain ⟨k4, e4, _, w4⟩ := DataW.trod_int Tryz.underlying3 h4
  obtain ⟨s5, e5, _, _⟩ := DataW.trod_string Tryz.underlying9 h5
  obtain ⟨v, l, e6, hR⟩ := open_intsL _ _ _ h6
  simp at e0 e1 e2 e3 e4 e5 e6
  subst e0 e1 e2 e3 e4 e5 e6
  exact ⟨⟨k0, s1.data.toList, s2.data.toList, k3, k4, s5.data.toList, l, g⟩, rfl, wf_i64 w4, wf_i64 w3, hR⟩
set_option maxRecDepth 4000 in
theorem open_op {r : Reach} {b0 : Nat} {v : Value} {d : DataW H} {p : List MemPlace} (hv : Value.okWide Tryz.prog W r b0 36 v) (h : DataW.Trod enc Tryz.prog W base sp held 36 v d p) :
    ∃ o : OpM, v = .agg o.cells.toArray ∧ o.ok W := by
  obtain ⟨cs, rfl, hsz⟩ := okWide_struct Tryz.underlying36 hv
  obtain ⟨fuel, hf⟩ := h
  obtain ⟨o, e, ho⟩ := open_op1 _ _ _ hf
  refine ⟨o, ?_, ho⟩
  simp [Value.cells] at e
  rw [← e]
set_option maxRecDepth 4000 in
theorem open_ops {r : Reach} {b0 : Nat} {v : Value} {d : DataW H} {p : List MemPlace} (hv : Value.okWide Tryz.prog W r b0 22 v) (h : DataW.Trod enc Tryz.prog W base sp held 22 v d p) :
    ∃ l : List OpM, OpsAt W v l := by
  obtain ⟨fuel, hf⟩ := h
  obtain ⟨a0, len0, cap0, rfl⟩ := okWide_slice Tryz.underlying22 hv
  obtain ⟨v', l, e, hR, hp⟩ := open_rows OpM.cells (fun o => o.ok W) Tryz.underlying22 cOp (by decide) open_op1 hf
  simp [Value.cells] at e
  exact ⟨l, e ▸ hR, fun o ho => (hp o ho).1⟩
theorem cStrs : Tryz.prog.cellsOf 42 = 1 := by kernel_rfl
theorem open_strL (fuel : Nat) (cs : List Value) (x : DataW H × List MemPlace) (h : DataW.trod enc Tryz.prog W base sp held fuel 9 cs = some x) : ∃ s : List UInt8, cs = [str s] ∧ True := by
  obtain ⟨s, e, _, _⟩ := DataW.trod_string Tryz.underlying9 h
  exact ⟨s.data.toList, e, trivial⟩
theorem flat_str1 : ∀ l : List (List UInt8), l.flatMap (fun q => [str q]) = l.map str
  | [] => rfl
  | a :: l => by rw [List.flatMap_cons, flat_str1 l]; rfl
set_option maxRecDepth 4000 in
theorem open_strsL {r : Reach} {b0 : Nat} {v : Value} {d : DataW H} {p : List MemPlace} (hv : Value.okWide Tryz.prog W r b0 42 v) (h : DataW.Trod enc Tryz.prog W base sp held 42 v d p) :
    ∃ l : List (List UInt8), Reads W 1 v l.length (l.map str) := by
  obtain ⟨fuel, hf⟩ := h
  obtain ⟨a0, len0, cap0, rfl⟩ := okWide_slice Tryz.underlying42 hv
  obtain ⟨v', l, e, hR, _⟩ := open_rows (fun s : List UInt8 => [str s]) (fun _ => True) Tryz.underlying42 cStr (by decide) open_strL hf
  rw [flat_str1] at hR
  simp [Value.cells] at e
  exact ⟨l, e ▸ hR⟩
end
/-- A block's cells laid anew. -/
def laying (cs : Array Value) : Obj → Obj
  | .cells _ t frozen => .cells cs t frozen
  | o => o
end Go.Proofs.YtnijmegalgoipaaGreatDoor
