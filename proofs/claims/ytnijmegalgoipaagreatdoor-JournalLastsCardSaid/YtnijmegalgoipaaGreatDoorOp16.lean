/- law16's calls among the arguments; two integers. -/
import Derived.Test.YtnijmegalgoipaaGreatDoorOpVal
import Derived.OpenShut
namespace Go.Proofs.YtnijmegalgoipaaGreatDoor
open Go.ChangeShapes Go.WideShapes Go.ChangeAt Go.RowKit
structure Op16 where
  ask : Int
  id : Int
  text : List UInt8
  picks : List Int
  vp : Value
def Op16.cells (o : Op16) : List Value := [.int .i64 o.ask, .int .i64 o.id, str o.text, o.vp]
theorem Op16.cells_length (o : Op16) : o.cells.length = 4 := rfl
structure Op16.ok (w : World) (o : Op16) : Prop where
  id : -9223372036854775808 ≤ o.id ∧ o.id ≤ 9223372036854775807
  picks : Reads w 1 o.vp o.picks.length (o.picks.map fun k => .int .i64 k)
theorem Op16.ok.bel {w w' : World} {o : Op16} (h : o.ok w) (hb : Below w.heap.size w w') : o.ok w' := ⟨h.id, h.picks.belowAll hb⟩
def Ops16At (w : World) (v : Value) (l : List Op16) : Prop := Reads w 4 v l.length (l.flatMap Op16.cells) ∧ ∀ o ∈ l, o.ok w
theorem Ops16At.bel {w w' : World} {v : Value} {l : List Op16} (h : Ops16At w v l) (hb : Below w.heap.size w w') : Ops16At w' v l := ⟨h.1.belowAll hb, fun o ho => (h.2 o ho).bel hb⟩
instance : Inhabited Op16 := ⟨⟨0, 0, [], [], .bool false⟩⟩
theorem len4 {α : Type} {l : List α} (h : l.length = 4) : ∃ a b c d, l = [a, b, c, d] := by
  match l, h with
  | [a, b, c, d], _ => exact ⟨a, b, c, d, rfl⟩
section
variable {H : Type} {enc : TypeId × Value → H} {W : World} {base : Nat} {sp : Nat → Bool} {held : Bool}
theorem trod_struct4 {P : Program} {t : TypeId} {f0 f1 f2 f3 : Field} {fuel : Nat} {cs : List Value} {x : DataW H × List MemPlace} (ht : P.underlying t = some (.struct #[f0, f1, f2, f3])) (h : DataW.trod enc P W base sp held fuel t cs = some x) :
    ∃ y0 y1 y2 y3 n, cs.length = P.cellsOf t ∧ DataW.trod enc P W base sp held n f0.type ((cs.drop f0.offset).take (P.cellsOf f0.type)) = some y0 ∧ DataW.trod enc P W base sp held n f1.type ((cs.drop f1.offset).take (P.cellsOf f1.type)) = some y1 ∧
      DataW.trod enc P W base sp held n f2.type ((cs.drop f2.offset).take (P.cellsOf f2.type)) = some y2 ∧ DataW.trod enc P W base sp held n f3.type ((cs.drop f3.offset).take (P.cellsOf f3.type)) = some y3 := by
  obtain ⟨xs, n, _, rfl, hl, hlen, hf⟩ := DataW.trod_struct ht h
  match xs, hlen with
  | [y0, y1, y2, y3], _ => exact ⟨y0, y1, y2, y3, n, hl, by simpa using hf 0 f0 rfl, by simpa using hf 1 f1 rfl, by simpa using hf 2 f2 rfl, by simpa using hf 3 f3 rfl⟩
theorem cOp16 : Tryz.prog.cellsOf 73 = 4 := by kernel_rfl
set_option maxRecDepth 4000 in
theorem open_op16 (fuel : Nat) (cs : List Value) (x : DataW H × List MemPlace) (h : DataW.trod enc Tryz.prog W base sp held fuel 73 cs = some x) : ∃ o : Op16, cs = o.cells ∧ o.ok W := by
  obtain ⟨y0, y1, y2, y3, n, hl, h0, h1, h2, h3⟩ := trod_struct4 Tryz.underlying73 h
  rw [cOp16] at hl
  obtain ⟨a, b, c, d, rfl⟩ := len4 hl
  simp only [cInt, cStr, cInts] at h0 h1 h2 h3
  obtain ⟨k0, e0, _, _⟩ := DataW.trod_int Tryz.underlying3 h0
  obtain ⟨k1, e1, _, w1⟩ := DataW.trod_int Tryz.underlying3 h1
  obtain ⟨s2, e2, _, _⟩ := DataW.trod_string Tryz.underlying9 h2
  obtain ⟨v, l, e3, hR⟩ := open_intsL _ _ _ h3
  simp at e0 e1 e2 e3
  subst e0 e1 e2 e3
  exact ⟨⟨k0, k1, s2.data.toList, l, d⟩, rfl, wf_i64 w1, hR⟩
set_option maxRecDepth 4000 in
theorem open_ops16 {r : Reach} {b0 : Nat} {v : Value} {d : DataW H} {p : List MemPlace} (hv : Value.okWide Tryz.prog W r b0 59 v) (h : DataW.Trod enc Tryz.prog W base sp held 59 v d p) :
    ∃ l : List Op16, Ops16At W v l := by
  obtain ⟨fuel, hf⟩ := h
  obtain ⟨a0, len0, cap0, rfl⟩ := okWide_slice Tryz.underlying59 hv
  obtain ⟨v', l, e, hR, hp⟩ := open_rows Op16.cells (fun o => o.ok W) Tryz.underlying59 cOp16 (by decide) open_op16 hf
  simp [Value.cells] at e
  exact ⟨l, e ▸ hR, fun o ho => (hp o ho).1⟩
theorem cTwo : Tryz.prog.cellsOf 60 = 2 := by kernel_rfl
set_option maxRecDepth 10000 in
theorem open_two2 {r : Reach} {b0 : Nat} {v : Value} {d : DataW H} {p : List MemPlace} (hv : Value.okWide Tryz.prog W r b0 60 v) (h : DataW.Trod enc Tryz.prog W base sp held 60 v d p) :
    ∃ a b : Int, v = .agg #[.int .i64 a, .int .i64 b] ∧ (-9223372036854775808 ≤ a ∧ a ≤ 9223372036854775807) ∧ (-9223372036854775808 ≤ b ∧ b ≤ 9223372036854775807) := by
  simp only [Value.okWide, Tryz.underlying60] at hv
  obtain ⟨cs, rfl, hcs, _⟩ := hv
  rw [cTwo] at hcs
  obtain ⟨fuel, hf⟩ := h
  obtain ⟨xs, m, _, _, _, hxl, hx⟩ := DataW.trod_array Tryz.underlying60 hf
  have hcell : ∀ i, i < 2 → ∃ n : Int, cs[i]? = some (.int .i64 n) ∧ (Lit.int .i64 n).wf = true := by
    intro i hi
    have h1 := hx i hi
    rw [List.getElem?_eq_getElem (by omega), cInt, Nat.mul_one] at h1
    obtain ⟨n, hc, _, hw⟩ := DataW.trod_int Tryz.underlying3 h1
    refine ⟨n, ?_, hw⟩
    have := congrArg (·[0]?) hc
    simpa [Value.cells, List.getElem?_take, List.getElem?_drop] using this
  obtain ⟨a, ha, wa⟩ := hcell 0 (by omega)
  obtain ⟨b, hb, wb⟩ := hcell 1 (by omega)
  refine ⟨a, b, ?_, wf_i64 wa, wf_i64 wb⟩
  congr 1
  apply Array.ext_getElem?
  intro i
  match i with
  | 0 => rw [ha]; rfl
  | 1 => rw [hb]; rfl
  | i + 2 => rw [Array.getElem?_eq_none (by omega), Array.getElem?_eq_none (by simp)]
end
end Go.Proofs.YtnijmegalgoipaaGreatDoor
