/- The walk of coracleref01.Take. -/
import Derived.Test.YtiildgoaiookhaaVarintW
import Derived.BigQuiet
namespace Go.Proofs.Ytiildgoaiookhaa
open Go.RowKit

end Go.Proofs.Ytiildgoaiookhaa
