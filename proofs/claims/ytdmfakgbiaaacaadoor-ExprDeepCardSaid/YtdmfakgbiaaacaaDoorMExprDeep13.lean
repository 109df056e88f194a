/- The kinds of this seat's structs, opened out of a row's reading. No conditions. -/
import Derived.Test.YtdmfakgbiaaacaaDoorMExprDeep8
import Derived.Test.YtdmfakgbiaaacaaDoorMExprDeep6
namespace Go.Proofs.YtdmfakgbiaaacaaDoor.Op
open Go.RowKit Go.Proofs.YtdmfakgbiaaacaaDoorW.PrintWords Go.Proofs.YtdmfakgbiaaacaaDoor.X
set_option linter.unusedVariables false
set_option maxRecDepth 100000
end Go.Proofs.YtdmfakgbiaaacaaDoor.Op
