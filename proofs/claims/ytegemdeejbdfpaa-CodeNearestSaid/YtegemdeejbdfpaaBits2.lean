/- How many binary figures a number has: nat.Bits and the reference's. -/
import Derived.Test.YtegemdeejbdfpaaRef1
import Derived.Test.YtegemdeejbdfpaaBits
namespace Go.Proofs.Ytegemdeejbdfpaa
open Go.RowKit

end Go.Proofs.Ytegemdeejbdfpaa
