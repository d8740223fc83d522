/- The walk of coracleref02.Take. -/
import Derived.Test.YtiildgoaiookhaaTagW
namespace Go.Proofs.Ytiildgoaiookhaa
open Go.RowKit

end Go.Proofs.Ytiildgoaiookhaa
