/- The walks of layer 1 (cell), part D: the document's products and quotients with a sign. -/
import Derived.Test.YtkchnmilmepnfaaCellC
namespace Go.Proofs.Ytkchnmilmepnfaa
open Go.RowKit

end Go.Proofs.Ytkchnmilmepnfaa
