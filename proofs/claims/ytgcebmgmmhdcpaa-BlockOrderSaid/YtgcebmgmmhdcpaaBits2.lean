/- How many binary figures a number has: nat.Bits and the reference's. -/
import Derived.Test.YtgcebmgmmhdcpaaRef1
import Derived.Test.YtgcebmgmmhdcpaaBits
namespace Go.Proofs.Ytgcebmgmmhdcpaa
open Go.RowKit

end Go.Proofs.Ytgcebmgmmhdcpaa
