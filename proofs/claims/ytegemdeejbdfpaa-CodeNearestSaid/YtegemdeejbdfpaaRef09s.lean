/- The document's 'are two rows the same?' of layer 9. -/
import Derived.Test.YtegemdeejbdfpaaInts
import Derived.Test.YtegemdeejbdfpaaSmall
namespace Go.Proofs.Ytegemdeejbdfpaa
open Go.RowKit

end Go.Proofs.Ytegemdeejbdfpaa
