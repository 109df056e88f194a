/- A reading of an argument opened into the printed kinds: numbers, truth values, strings, slices, structs, and structs nested in themselves. No conditions. -/
import Derived.Test.YtdmfakgbiaaacaaDoorMExprDeep2
import Derived.Test.YtdmfakgbiaaacaaDoorProg
import Derived.ChangeArms
import Derived.DataElems
import Derived.WideShapes
import Derived.SizedLaws
namespace Go.Proofs.YtdmfakgbiaaacaaDoor.Op
open Go.RowKit Go.Proofs.YtdmfakgbiaaacaaDoorW.PrintWords Go.WideShapes
set_option linter.unusedVariables false
set_option linter.unusedSimpArgs false
set_option autoImplicit false
section
variable {α β : Type} {n : Nat}
end
end Go.Proofs.YtdmfakgbiaaacaaDoor.Op
