/- A list of deltas among the arguments. -/
import Derived.Test.YtnagmpnpgekhfaaOpenRows
import Derived.Test.YtnagmpnpgekhfaaSumVal
import Derived.Test.YtnagmpnpgekhfaaRefOf
namespace Go.Proofs.Ytnagmpnpgekhfaa
open Go.ChangeShapes Go.WideShapes Go.ChangeAt Go.RowKit
section
variable {H : Type} {enc : TypeId × Value → H} {W : World} {base : Nat} {sp : Nat → Bool} {held : Bool}
theorem cellsDelta : Try.prog.cellsOf 57 = 33 := by kernel_rfl
theorem cellsDeltas : Try.prog.cellsOf 22 = 1 := by kernel_rfl
theorem cellsIntD : Try.prog.cellsOf 3 = 1 := by kernel_rfl
theorem open_sumD (fuel : Nat) (cs : List Value) (x : DataW H × List MemPlace) (h : DataW.trod enc Try.prog W base sp held fuel 36 cs = some x) : ∃ l : List UInt8, cs = l.map bv ∧ l.length = 32 := by
  obtain ⟨xs, m, _, _, hcs, hxl, hx⟩ := DataW.trod_array Try.underlying36 h
  rw [cells_sum] at hcs
  have hcell : ∀ i, i < 32 → ∃ n : Int, cs[i]? = some (.int .u8 n) ∧ (Lit.int .u8 n).wf = true := by
    intro i hi
    have h1 := hx i hi
    rw [List.getElem?_eq_getElem (by omega), cells_u8, Nat.mul_one] at h1
    obtain ⟨n, hc, _, hw⟩ := DataW.trod_int Try.underlying5 h1
    refine ⟨n, ?_, hw⟩
    have := congrArg (·[0]?) hc
    simpa [List.getElem?_take, List.getElem?_drop] using this
  refine ⟨cs.map byteIn, ?_, by simpa using hcs⟩
  apply List.ext_getElem?
  intro i
  by_cases hi : i < 32
  · obtain ⟨n, hc, hw⟩ := hcell i hi
    have e : (List.map bv (List.map byteIn cs))[i]? = some (bv (byteIn (.int .u8 n))) := by
      simp [hc]
    rw [e, hc, ← bv_byteIn hw]
  · rw [List.getElem?_eq_none (by omega), List.getElem?_eq_none (by simp; omega)]
theorem open_delta (fuel : Nat) (cs : List Value) (x : DataW H × List MemPlace) (h : DataW.trod enc Try.prog W base sp held fuel 57 cs = some x) : ∃ c : Chk, cs = c.cells ∧ c.sum.length = 32 := by
  obtain ⟨y0, y1, n, _, hl, h0, h1⟩ := trod_struct2 Try.underlying57 h
  rw [cellsDelta] at hl
  simp only [cells_sum, cellsIntD, List.drop_zero] at h0 h1
  obtain ⟨l, e0, hl0⟩ := open_sumD _ _ _ h0
  obtain ⟨k, e1, _, _⟩ := DataW.trod_int Try.underlying3 h1
  refine ⟨⟨l, k⟩, ?_, hl0⟩
  show cs = l.map bv ++ [.int .i64 k]
  rw [← e0, ← e1]
  have : (cs.drop 32).take 1 = cs.drop 32 := List.take_of_length_le (by rw [List.length_drop]; omega)
  rw [this, List.take_append_drop]
instance : Inhabited Chk := ⟨⟨[], 0⟩⟩
set_option maxRecDepth 4000 in
theorem open_deltas1 (fuel : Nat) (cs : List Value) (x : DataW H × List MemPlace) (h : DataW.trod enc Try.prog W base sp held fuel 22 cs = some x) : ∃ (v : Value) (l : List Chk), cs = [v] ∧ ChksAt W v l := by
  obtain ⟨v, l, hv, hR, hp⟩ := open_rows Chk.cells (fun c => c.sum.length = 32) Try.underlying22 cellsDelta (by decide) open_delta h
  exact ⟨v, l, hv, hR, fun c hc => (hp c hc).1⟩
set_option maxRecDepth 4000 in
theorem open_deltas {r : Reach} {b0 : Nat} {v : Value} {d : DataW H} {p : List MemPlace} (hv : Value.okWide Try.prog W r b0 22 v) (h : DataW.Trod enc Try.prog W base sp held 22 v d p) :
    ∃ l : List Chk, ChksAt W v l := by
  obtain ⟨fuel, hf⟩ := h
  obtain ⟨a0, len0, cap0, rfl⟩ := okWide_slice Try.underlying22 hv
  obtain ⟨v', l, e, hR⟩ := open_deltas1 _ _ _ hf
  simp [Value.cells] at e
  exact ⟨l, e ▸ hR⟩
theorem flat_one {α β : Type} (f : α → β) : ∀ l : List α, l.flatMap (fun q => [f q]) = l.map f
  | [] => rfl
  | a :: l => by rw [List.flatMap_cons, flat_one f l]; rfl
instance : Inhabited (Value × List Chk) := ⟨(.bool false, [])⟩
set_option maxRecDepth 4000 in
theorem open_lists {r : Reach} {b0 : Nat} {v : Value} {d : DataW H} {p : List MemPlace} (hv : Value.okWide Try.prog W r b0 34 v) (h : DataW.Trod enc Try.prog W base sp held 34 v d p) :
    ∃ ls : List (List Chk), StrsAt W v ls := by
  obtain ⟨fuel, hf⟩ := h
  obtain ⟨a0, len0, cap0, rfl⟩ := okWide_slice Try.underlying34 hv
  obtain ⟨v', l, e, hR, hp⟩ := open_rows (fun (q : Value × List Chk) => [q.1]) (fun q => ChksAt W q.1 q.2) Try.underlying34 cellsDeltas (by decide) (fun f cs x h => by
    obtain ⟨v, l, rfl, hc⟩ := open_deltas1 f cs x h
    exact ⟨(v, l), rfl, hc⟩) hf
  simp [Value.cells] at e
  refine ⟨l.map (·.2), l.map (·.1), ?_, fun i q hq => ?_⟩
  · rw [flat_one] at hR
    rw [e]
    simpa using hR
  · rw [List.getElem?_map, Option.map_eq_some_iff] at hq
    obtain ⟨a, ha, rfl⟩ := hq
    exact ⟨a.1, by rw [List.getElem?_map, ha]; rfl, (hp a (List.mem_of_getElem? ha)).1⟩
end
end Go.Proofs.Ytnagmpnpgekhfaa
