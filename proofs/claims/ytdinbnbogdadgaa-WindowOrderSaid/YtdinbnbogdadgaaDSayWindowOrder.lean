/- What is asked of the law WindowOrder, in plain Lean. No conditions. -/
import Derived.Test.YtdinbnbogdadgaaDKo
import Derived.Test.YtdinbnbogdadgaaDXf5
namespace Go.Proofs.Ytdinbnbogdadgaa.Op
open Go.RowKit Go.Proofs.YtdinbnbogdadgaaW.PrintWords Go.Proofs.Ytdinbnbogdadgaa.X
def WindowOrderPure : Prop := ∀ (a0_0 : Int) (a0_1 : Int) (a0_2 : Int) (a1 : Int) (l2 : List (S37)) (a3 : Int), ((Lit.int .i64 a0_0).wf = true) → ((Lit.int .i64 a0_1).wf = true) → ((Lit.int .i64 a0_2).wf = true) → ((Lit.int .i64 a1).wf = true) → (l2.length * 24 ≤ 140737488351232 ∧ l2.length ≤ 9223372036854775807 ∧ ∀ x ∈ l2, Good37 x) → ((Lit.int .i64 a3).wf = true) → ∃ k, leatlaw11_WindowOrder.f k a0_0 a0_1 a0_2 a1 l2 a3 = some true
end Go.Proofs.Ytdinbnbogdadgaa.Op
