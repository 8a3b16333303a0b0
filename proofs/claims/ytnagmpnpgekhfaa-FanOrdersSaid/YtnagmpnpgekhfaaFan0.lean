/- fan: entries in memory. -/
import Derived.Test.YtnagmpnpgekhfaaFanPlain
import Derived.Test.YtnagmpnpgekhfaaCmp
import Derived.Test.YtnagmpnpgekhfaaRowsRow
import Derived.Test.YtnagmpnpgekhfaaOps4
namespace Go.Proofs.Ytnagmpnpgekhfaa
open Go.RowKit
def Ent.cells (e : Ent) : List Value := e.sum.map bv ++ [.int .i64 e.pack, .int .i64 e.pos, .int .i64 e.len]
theorem Ent.cells_length {e : Ent} (h : e.sum.length = 32) : e.cells.length = 35 := by simp [Ent.cells, h]
theorem Ent.size {e : Ent} (h : e.sum.length = 32) : e.cells.toArray.size = 35 := by simp [Ent.cells, h]
theorem entSum {w : World} {g : Nat} {t : TypeId} {x : Ent} (h : Blk w g t x.cells.toArray) : w.rangeAt g (0 + 0) (x.sum.map bv) := fun i v hv => by
  have hi := (List.getElem?_eq_some_iff.1 hv).1
  rw [Nat.zero_add, h.cell, List.getElem?_toArray]
  unfold Ent.cells
  rw [List.getElem?_append_left hi, hv]
theorem Grows.trans {w w' w'' : World} (h : Grows w w') (h' : Grows w' w'') : Grows w w'' := by
  obtain ⟨q, os, rfl⟩ := h
  obtain ⟨q', os', rfl⟩ := h'
  refine ⟨q + q', os ++ os', ?_⟩
  simp [Sort.grow, World.drewN, Array.append_assoc, Nat.add_assoc]
end Go.Proofs.Ytnagmpnpgekhfaa
