/- More on rows. -/
import Derived.Test.YtnagmpnpgekhfaaDoorGen
import Derived.Test.YtnagmpnpgekhfaaDoorOps3
namespace Go.Proofs.YtnagmpnpgekhfaaDoor
open Go.RowKit
end Go.Proofs.YtnagmpnpgekhfaaDoor
