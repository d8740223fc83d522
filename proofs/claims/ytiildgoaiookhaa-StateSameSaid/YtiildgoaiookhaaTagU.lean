/- The walk of coracleref02.Skip. -/
import Derived.Test.YtiildgoaiookhaaTagS
namespace Go.Proofs.Ytiildgoaiookhaa
open Go.RowKit

end Go.Proofs.Ytiildgoaiookhaa
