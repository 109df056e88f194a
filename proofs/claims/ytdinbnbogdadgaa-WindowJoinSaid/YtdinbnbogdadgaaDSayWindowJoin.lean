/- What is asked of the law WindowJoin, in plain Lean. No conditions. -/
import Derived.Test.YtdinbnbogdadgaaDKo
import Derived.Test.YtdinbnbogdadgaaDXf10
namespace Go.Proofs.Ytdinbnbogdadgaa.Op
open Go.RowKit Go.Proofs.YtdinbnbogdadgaaW.PrintWords Go.Proofs.Ytdinbnbogdadgaa.X
def WindowJoinPure : Prop := ∀ (a0 : Int) (l1 : List (S46)), ((Lit.int .i64 a0).wf = true) → (l1.length * 32 ≤ 140737488351232 ∧ l1.length ≤ 9223372036854775807 ∧ ∀ x ∈ l1, Good46 x) → ∃ k, leatlaw11_WindowJoin.f k a0 l1 = some true
end Go.Proofs.Ytdinbnbogdadgaa.Op
