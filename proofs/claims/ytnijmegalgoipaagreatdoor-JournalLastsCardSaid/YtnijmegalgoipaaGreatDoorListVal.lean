/- Lists of bools and of integers among the arguments. -/
import Derived.Test.YtnijmegalgoipaaGreatDoorOpVal
import Derived.Test.YtnijmegalgoipaaGreatDoorDiskLaid
namespace Go.Proofs.YtnijmegalgoipaaGreatDoor
open Go.ChangeShapes Go.WideShapes Go.ChangeAt Go.RowKit
section
variable {H : Type} {enc : TypeId × Value → H} {W : World} {base : Nat} {sp : Nat → Bool} {held : Bool}
theorem cBool : Tryz.prog.cellsOf 4 = 1 := by kernel_rfl
theorem open_boolL (fuel : Nat) (cs : List Value) (x : DataW H × List MemPlace) (h : DataW.trod enc Tryz.prog W base sp held fuel 4 cs = some x) : ∃ b : Bool, cs = [.bool b] ∧ True := by
  obtain ⟨b, e, _, _⟩ := DataW.trod_bool Tryz.underlying4 h
  exact ⟨b, e, trivial⟩
theorem flat_bool1 : ∀ l : List Bool, l.flatMap (fun q => [Value.bool q]) = l.map Value.bool
  | [] => rfl
  | a :: l => by rw [List.flatMap_cons, flat_bool1 l]; rfl
set_option maxRecDepth 4000 in
theorem open_boolsW {r : Reach} {b0 : Nat} {v : Value} {d : DataW H} {p : List MemPlace} (hv : Value.okWide Tryz.prog W r b0 56 v) (h : DataW.Trod enc Tryz.prog W base sp held 56 v d p) :
    ∃ l : List Bool, Reads W 1 v l.length (l.map Value.bool) := by
  obtain ⟨fuel, hf⟩ := h
  obtain ⟨a0, len0, cap0, rfl⟩ := okWide_slice Tryz.underlying56 hv
  obtain ⟨v', l, e, hR, _⟩ := open_rows (fun s : Bool => [Value.bool s]) (fun _ => True) Tryz.underlying56 cBool (by decide) open_boolL hf
  rw [flat_bool1] at hR
  simp [Value.cells] at e
  exact ⟨l, e ▸ hR⟩
set_option maxRecDepth 4000 in
theorem open_intsW {r : Reach} {b0 : Nat} {v : Value} {d : DataW H} {p : List MemPlace} (hv : Value.okWide Tryz.prog W r b0 34 v) (h : DataW.Trod enc Tryz.prog W base sp held 34 v d p) :
    ∃ l : List Int, Reads W 1 v l.length (l.map fun k => .int .i64 k) := by
  obtain ⟨fuel, hf⟩ := h
  obtain ⟨a0, len0, cap0, rfl⟩ := okWide_slice Tryz.underlying34 hv
  obtain ⟨v', l, e, hR, _⟩ := open_rows (fun s : Int => [Value.int .i64 s]) (fun _ => True) Tryz.underlying34 cInt (by decide) open_intL hf
  rw [flat_int1] at hR
  simp [Value.cells] at e
  exact ⟨l, e ▸ hR⟩
end
end Go.Proofs.YtnijmegalgoipaaGreatDoor
