/- What is asked of the law ExprDeep, in plain Lean. No conditions. -/
import Derived.Test.YtdmfakgbiaaacaaDoorMExprDeep13
import Derived.Test.YtdmfakgbiaaacaaDoorMExprDeep11
namespace Go.Proofs.YtdmfakgbiaaacaaDoor.Op
open Go.RowKit Go.Proofs.YtdmfakgbiaaacaaDoorW.PrintWords Go.Proofs.YtdmfakgbiaaacaaDoor.X
def ExprDeepPure : Prop := ∀ (a0 : Int) (a1 : Bool), ((Lit.int .i64 a0).wf = true) → leatlaw7_ExprDeep.f a0 a1 = some true
end Go.Proofs.YtdmfakgbiaaacaaDoor.Op
namespace Go.Proofs.YtdmfakgbiaaacaaDoor.X
open Go.RowKit Go.Proofs.YtdmfakgbiaaacaaDoorW.PrintWords Go.Proofs.YtdmfakgbiaaacaaDoor.Op
set_option linter.unusedVariables false
set_option linter.unusedSimpArgs false
section
variable {α β : Type}
end
end Go.Proofs.YtdmfakgbiaaacaaDoor.X
namespace Go.Proofs.YtdmfakgbiaaacaaDoor.X
open Go.RowKit Go.Proofs.YtdmfakgbiaaacaaDoorW.PrintWords Go.Proofs.YtdmfakgbiaaacaaDoor.Op
set_option linter.unusedVariables false
set_option linter.unusedSimpArgs false
section
variable (r0 r1 r2 : Int)
end
end Go.Proofs.YtdmfakgbiaaacaaDoor.X
namespace Go.Proofs.YtdmfakgbiaaacaaDoor.X
open Go.RowKit Go.Proofs.YtdmfakgbiaaacaaDoorW.PrintWords Go.Proofs.YtdmfakgbiaaacaaDoor.Op
set_option linter.unusedVariables false
set_option linter.unusedSimpArgs false
def B (l : List UInt8) : ByteArray := ⟨l.toArray⟩
theorem wf_range {z : Int} (h : (Lit.int .i64 z).wf = true) : -9223372036854775808 ≤ z ∧ z ≤ 9223372036854775807 := by
  simpa [Lit.wf, IntKind.min, IntKind.max, IntKind.signed, IntKind.bits] using h
end Go.Proofs.YtdmfakgbiaaacaaDoor.X
namespace Go.Proofs.YtdmfakgbiaaacaaDoor.Pure
open Go.RowKit Go.Proofs.YtdmfakgbiaaacaaDoor.X Go.Proofs.YtdmfakgbiaaacaaDoor.Op
set_option linter.unusedVariables false
theorem ExprDeep : Op.ExprDeepPure := fun _ _ h => by
  unfold leatlaw7_ExprDeep.f
  exact if_pos (wf_range h)
end Go.Proofs.YtdmfakgbiaaacaaDoor.Pure
