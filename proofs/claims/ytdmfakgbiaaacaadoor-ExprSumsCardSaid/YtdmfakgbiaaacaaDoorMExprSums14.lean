/- What is asked of the law ExprSums, in plain Lean. No conditions. -/
import Derived.Test.YtdmfakgbiaaacaaDoorMExprSums13
import Derived.Test.YtdmfakgbiaaacaaDoorMExprSums11
namespace Go.Proofs.YtdmfakgbiaaacaaDoor.Op
open Go.RowKit Go.Proofs.YtdmfakgbiaaacaaDoorW.PrintWords Go.Proofs.YtdmfakgbiaaacaaDoor.X
def ExprSumsPure : Prop := ∀ (a0 : Int) (a1 : Int) (a2 : Int), ((Lit.int .i64 a0).wf = true) → ((Lit.int .i64 a1).wf = true) → ((Lit.int .i64 a2).wf = true) → leatlaw7_ExprSums.f a0 a1 a2 = some true
end Go.Proofs.YtdmfakgbiaaacaaDoor.Op
namespace Go.Proofs.YtdmfakgbiaaacaaDoor.Pure
open Go.RowKit Go.Proofs.YtdmfakgbiaaacaaDoor.X Go.Proofs.YtdmfakgbiaaacaaDoor.Op
set_option linter.unusedVariables false
theorem ExprSums : Op.ExprSumsPure := fun _ _ _ _ _ _ => rfl
end Go.Proofs.YtdmfakgbiaaacaaDoor.Pure
