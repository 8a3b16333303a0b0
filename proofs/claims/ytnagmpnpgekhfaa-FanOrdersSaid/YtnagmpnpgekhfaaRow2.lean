/- More on rows. -/
import Derived.Test.YtnagmpnpgekhfaaGen
import Derived.Test.YtnagmpnpgekhfaaOps3
namespace Go.Proofs.Ytnagmpnpgekhfaa
open Go.RowKit
end Go.Proofs.Ytnagmpnpgekhfaa
