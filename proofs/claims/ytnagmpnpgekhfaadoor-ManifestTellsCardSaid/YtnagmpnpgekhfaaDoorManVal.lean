/- A manifest among the arguments. -/
import Derived.Test.YtnagmpnpgekhfaaDoorOpenRows
import Derived.Test.YtnagmpnpgekhfaaDoorSumVal
import Derived.Test.YtnagmpnpgekhfaaDoorManCheck
namespace Go.Proofs.YtnagmpnpgekhfaaDoor
open Go.ChangeShapes Go.WideShapes Go.ChangeAt Go.RowKit
section
variable {H : Type} {enc : TypeId × Value → H} {W : World} {base : Nat} {sp : Nat → Bool} {held : Bool}
theorem cellsCol : Tryd.prog.cellsOf 60 = 3 := by kernel_rfl
theorem cellsChk : Tryd.prog.cellsOf 55 = 33 := by kernel_rfl
theorem cellsChks : Tryd.prog.cellsOf 51 = 1 := by kernel_rfl
theorem cellsInt : Tryd.prog.cellsOf 3 = 1 := by kernel_rfl
theorem cellsStr : Tryd.prog.cellsOf 9 = 1 := by kernel_rfl
theorem cellsBool : Tryd.prog.cellsOf 4 = 1 := by kernel_rfl
theorem cellsCols : Tryd.prog.cellsOf 23 = 1 := by kernel_rfl
theorem cellsStrs : Tryd.prog.cellsOf 24 = 1 := by kernel_rfl
theorem cellsMan : Tryd.prog.cellsOf 26 = 4 := by kernel_rfl
theorem len3 {α : Type} {l : List α} (h : l.length = 3) : ∃ a b c, l = [a, b, c] := by
  match l, h with
  | [a, b, c], _ => exact ⟨a, b, c, rfl⟩
theorem open_col (fuel : Nat) (cs : List Value) (x : DataW H × List MemPlace) (h : DataW.trod enc Tryd.prog W base sp held fuel 60 cs = some x) : ∃ c : Col, cs = c.cells ∧ c.name.length ≤ 9223372036854775807 := by
  obtain ⟨y0, y1, y2, n, _, hl, h0, h1, h2⟩ := Go.Deep.trod_struct3 Tryd.underlying60 h
  rw [cellsCol] at hl
  obtain ⟨a, b, c, rfl⟩ := len3 hl
  simp only [cellsStr, cellsInt, cellsBool] at h0 h1 h2
  obtain ⟨s, e0, _, hs⟩ := DataW.trod_string Tryd.underlying9 h0
  obtain ⟨k, e1, _, _⟩ := DataW.trod_int Tryd.underlying3 h1
  obtain ⟨z, e2, _⟩ := DataW.trod_bool Tryd.underlying4 h2
  simp at e0 e1 e2
  subst e0 e1 e2
  refine ⟨⟨s.data.toList, k, z⟩, rfl, ?_⟩
  unfold maxLen at hs
  exact hs
theorem open_sum' (fuel : Nat) (cs : List Value) (x : DataW H × List MemPlace) (h : DataW.trod enc Tryd.prog W base sp held fuel 53 cs = some x) : ∃ l : List UInt8, cs = l.map bv ∧ l.length = 32 := by
  obtain ⟨xs, m, _, _, hcs, hxl, hx⟩ := DataW.trod_array Tryd.underlying53 h
  rw [cells_sum] at hcs
  have hcell : ∀ i, i < 32 → ∃ n : Int, cs[i]? = some (.int .u8 n) ∧ (Lit.int .u8 n).wf = true := by
    intro i hi
    have h1 := hx i hi
    rw [List.getElem?_eq_getElem (by omega), cells_u8, Nat.mul_one] at h1
    obtain ⟨n, hc, _, hw⟩ := DataW.trod_int Tryd.underlying5 h1
    refine ⟨n, ?_, hw⟩
    have := congrArg (·[0]?) hc
    simpa [List.getElem?_take, List.getElem?_drop] using this
  refine ⟨cs.map byteIn, ?_, by simpa using hcs⟩
  apply List.ext_getElem?
  intro i
  by_cases hi : i < 32
  · obtain ⟨n, hc, hw⟩ := hcell i hi
    have e : (List.map bv (List.map byteIn cs))[i]? = some (bv (byteIn (.int .u8 n))) := by
      simp [hc]
    rw [e, hc, ← bv_byteIn hw]
  · rw [List.getElem?_eq_none (by omega), List.getElem?_eq_none (by simp; omega)]
theorem open_chk (fuel : Nat) (cs : List Value) (x : DataW H × List MemPlace) (h : DataW.trod enc Tryd.prog W base sp held fuel 55 cs = some x) : ∃ c : Chk, cs = c.cells ∧ c.sum.length = 32 := by
  obtain ⟨y0, y1, n, _, hl, h0, h1⟩ := trod_struct2 Tryd.underlying55 h
  rw [cellsChk] at hl
  simp only [cells_sum, cellsInt, List.drop_zero] at h0 h1
  obtain ⟨l, e0, hl0⟩ := open_sum' _ _ _ h0
  obtain ⟨k, e1, _, _⟩ := DataW.trod_int Tryd.underlying3 h1
  refine ⟨⟨l, k⟩, ?_, hl0⟩
  show cs = l.map bv ++ [.int .i64 k]
  rw [← e0, ← e1]
  have : (cs.drop 32).take 1 = cs.drop 32 := List.take_of_length_le (by rw [List.length_drop]; omega)
  rw [this, List.take_append_drop]
theorem flat_single {α β : Type} (f : α → β) : ∀ l : List α, l.flatMap (fun q => [f q]) = l.map f
  | [] => rfl
  | a :: l => by rw [List.flatMap_cons, flat_single f l]; rfl
instance : Inhabited Col := ⟨⟨[], 0, false⟩⟩
instance : Inhabited Chk := ⟨⟨[], 0⟩⟩
theorem open_cols (fuel : Nat) (cs : List Value) (x : DataW H × List MemPlace) (h : DataW.trod enc Tryd.prog W base sp held fuel 23 cs = some x) : ∃ (v : Value) (l : List Col), cs = [v] ∧ ColsAt W v l := by
  obtain ⟨v, l, hv, hR, hp⟩ := open_rows Col.cells (fun c => c.name.length ≤ 9223372036854775807) Tryd.underlying23 cellsCol (by decide) open_col h
  exact ⟨v, l, hv, hR, fun c hc => (hp c hc).1⟩
theorem open_chks (fuel : Nat) (cs : List Value) (x : DataW H × List MemPlace) (h : DataW.trod enc Tryd.prog W base sp held fuel 51 cs = some x) : ∃ (v : Value) (l : List Chk), cs = [v] ∧ ChksAt W v l := by
  obtain ⟨v, l, hv, hR, hp⟩ := open_rows Chk.cells (fun c => c.sum.length = 32) Tryd.underlying51 cellsChk (by decide) open_chk h
  exact ⟨v, l, hv, hR, fun c hc => (hp c hc).1⟩
instance : Inhabited (Value × List Chk) := ⟨(.bool false, [])⟩
theorem open_strs' (fuel : Nat) (cs : List Value) (x : DataW H × List MemPlace) (h : DataW.trod enc Tryd.prog W base sp held fuel 24 cs = some x) : ∃ (v : Value) (ls : List (List Chk)), cs = [v] ∧ StrsAt W v ls := by
  obtain ⟨v, l, hv, hR, hp⟩ := open_rows (fun (q : Value × List Chk) => [q.1]) (fun q => ChksAt W q.1 q.2) Tryd.underlying24 cellsChks (by decide) (fun f cs x h => by
    obtain ⟨v, l, rfl, hc⟩ := open_chks f cs x h
    exact ⟨(v, l), rfl, hc⟩) h
  refine ⟨v, l.map (·.2), hv, l.map (·.1), ?_, fun i q hq => ?_⟩
  · rw [flat_single] at hR
    simpa using hR
  · rw [List.getElem?_map, Option.map_eq_some_iff] at hq
    obtain ⟨a, ha, rfl⟩ := hq
    exact ⟨a.1, by rw [List.getElem?_map, ha]; rfl, (hp a (List.mem_of_getElem? ha)).1⟩
set_option maxRecDepth 4000 in
theorem open_man {r : Reach} {b0 : Nat} {v : Value} {d : DataW H} {p : List MemPlace} (hv : Value.okWide Tryd.prog W r b0 26 v) (h : DataW.Trod enc Tryd.prog W base sp held 26 v d p) :
    ∃ (m : Man) (vc vs : Value), v = manV m vc vs ∧ ColsAt W vc m.cols ∧ StrsAt W vs m.strs := by
  obtain ⟨cs, rfl, hsz⟩ := okWide_struct Tryd.underlying26 hv
  rw [cellsMan] at hsz
  obtain ⟨c0, c1, c2, c3, rfl⟩ := Go.Joins.array4 hsz
  obtain ⟨fuel, hf⟩ := h
  obtain ⟨y0, y1, y2, y3, n, _, _, h0, h1, h2, h3⟩ := Go.Joins.trod_struct4 Tryd.underlying26 hf
  simp only [cellsInt, cellsCols, cellsStrs] at h0 h1 h2 h3
  obtain ⟨a, e0, _, _⟩ := DataW.trod_int Tryd.underlying3 h0
  obtain ⟨b, e1, _, _⟩ := DataW.trod_int Tryd.underlying3 h1
  obtain ⟨vc, lc, e2, hc⟩ := open_cols _ _ _ h2
  obtain ⟨vs, ls, e3, hs⟩ := open_strs' _ _ _ h3
  simp [Value.cells] at e0 e1 e2 e3
  subst e0 e1 e2 e3
  exact ⟨⟨a, b, lc, ls⟩, _, _, rfl, hc, hs⟩
end
end Go.Proofs.YtnagmpnpgekhfaaDoor
