/- Entries among the arguments. -/
import Derived.Test.YtnagmpnpgekhfaaDeltaVal
import Derived.Test.YtnagmpnpgekhfaaFan5
import Derived.Lib.SmallJoins
namespace Go.Proofs.Ytnagmpnpgekhfaa
open Go.ChangeShapes Go.WideShapes Go.ChangeAt Go.RowKit
section
variable {H : Type} {enc : TypeId × Value → H} {W : World} {base : Nat} {sp : Nat → Bool} {held : Bool}
theorem cellsEnt : Try.prog.cellsOf 90 = 35 := by kernel_rfl
theorem open_ent (fuel : Nat) (cs : List Value) (x : DataW H × List MemPlace) (h : DataW.trod enc Try.prog W base sp held fuel 90 cs = some x) : ∃ e : Ent, cs = e.cells ∧ e.sum.length = 32 := by
  obtain ⟨y0, y1, y2, y3, n, _, hl, h0, h1, h2, h3⟩ := Go.Joins.trod_struct4 Try.underlying90 h
  rw [cellsEnt] at hl
  simp only [cells_sum, cellsIntD, List.drop_zero] at h0 h1 h2 h3
  obtain ⟨l, e0, hl0⟩ := open_sumD _ _ _ h0
  obtain ⟨k1, e1, _, _⟩ := DataW.trod_int Try.underlying3 h1
  obtain ⟨k2, e2, _, _⟩ := DataW.trod_int Try.underlying3 h2
  obtain ⟨k3, e3, _, _⟩ := DataW.trod_int Try.underlying3 h3
  refine ⟨⟨l, k1, k2, k3⟩, ?_, hl0⟩
  show cs = l.map bv ++ [.int .i64 k1, .int .i64 k2, .int .i64 k3]
  rw [← e0]
  have hd : cs.drop 32 = [.int .i64 k1, .int .i64 k2, .int .i64 k3] := by
    have d33 : cs.drop 33 = (cs.drop 32).drop 1 := by rw [List.drop_drop]
    have d34 : cs.drop 34 = (cs.drop 32).drop 2 := by rw [List.drop_drop]
    rw [d33] at e2
    rw [d34] at e3
    have hl3 : (cs.drop 32).length = 3 := by rw [List.length_drop]; omega
    revert e1 e2 e3 hl3
    generalize cs.drop 32 = q
    intro e1 e2 e3 hl3
    match q, hl3 with
    | [a, b, c], _ =>
      simp at e1 e2 e3
      rw [e1, e2, e3]
  rw [← hd, List.take_append_drop]
instance : Inhabited Ent := ⟨⟨[], 0, 0, 0⟩⟩
set_option maxRecDepth 4000 in
theorem open_ents {r : Reach} {b0 : Nat} {v : Value} {d : DataW H} {p : List MemPlace} (hv : Value.okWide Try.prog W r b0 69 v) (h : DataW.Trod enc Try.prog W base sp held 69 v d p) :
    ∃ l : List Ent, EntsAt W v l ∧ S32 l := by
  obtain ⟨fuel, hf⟩ := h
  obtain ⟨a0, len0, cap0, rfl⟩ := okWide_slice Try.underlying69 hv
  obtain ⟨v', l, e, hR, hp⟩ := open_rows Ent.cells (fun c => c.sum.length = 32) Try.underlying69 cellsEnt (by decide) open_ent hf
  simp [Value.cells] at e
  subst e
  exact ⟨l, hR, fun c hc => (hp c hc).1⟩
end
end Go.Proofs.Ytnagmpnpgekhfaa
