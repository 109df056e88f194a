/- Proofs towards the law ExprDeep, joined into one text. No conditions beyond those typed. -/
import Derived.Test.YtdmfakgbiaaacaaDoorMExprDeep0
import Derived.Laws.StructEq
namespace Go.Proofs.YtdmfakgbiaaacaaDoorW.PrintWords
open Go.RowKit
section
variable {P : Program} {d : Nat} {xs ys : Array Value} {f : Field} {fs : List Field} {a b : Value} {r s : Bool} {w : World}
end
end Go.Proofs.YtdmfakgbiaaacaaDoorW.PrintWords
