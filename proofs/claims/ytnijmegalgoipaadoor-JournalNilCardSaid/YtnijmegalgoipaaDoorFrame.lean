/- What all laws' frames of this seat share. -/
import Derived.Test.YtnijmegalgoipaaDoorRows
import Derived.WalkKit
import Derived.ProofKit
import Derived.OpenShut
import Derived.Deep.DeepHandedRow
import Derived.Lib.LaidTab
import Derived.ShutString
import Derived.ChangeOld
import Derived.SliceStrings
import Derived.Test.YtnijmegalgoipaaDoorMem
namespace Go.Proofs.YtnijmegalgoipaaDoor
open Go.ChangeShapes Go.WideShapes Go.ChangeAt Go.RowKit
theorem own : ownKnob Tryd.prog.godebug = none := by kernel_rfl
theorem laidOut : laidOutB Tryd.prog = true := by kernel_rfl
end Go.Proofs.YtnijmegalgoipaaDoor
