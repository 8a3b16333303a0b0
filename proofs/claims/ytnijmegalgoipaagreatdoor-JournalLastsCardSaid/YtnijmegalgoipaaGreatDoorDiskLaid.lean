/- A world for the witness: the listed tables of package utf8 laid (the disk's code does not read them). -/
import Derived.Test.YtnijmegalgoipaaGreatDoorOpVal
import Derived.Lib.LaidU8T
import Derived.Stop.LaidErr
namespace Go.Proofs.YtnijmegalgoipaaGreatDoor
open Go.ChangeShapes Go.WideShapes Go.ChangeAt Go.RowKit Go.Shelf
/-- A world for the witness: the settled one, the two tables holding what their initialisers lay. -/
noncomputable def laidWorld (os : Os) : World :=
  { World.holding Tryz.prog os ⟨#[], #[], []⟩ with heap := ((World.holding Tryz.prog os ⟨#[], #[], []⟩).heap.modify 0 (laying (Lib.firstTab.map fun z => Value.int .u8 z).toArray)).modify 1 (laying ((List.range 16).flatMap fun i => [Value.int .u8 (Lib.accLo i), Value.int .u8 (Lib.accHi i)]).toArray) }
end Go.Proofs.YtnijmegalgoipaaGreatDoor
