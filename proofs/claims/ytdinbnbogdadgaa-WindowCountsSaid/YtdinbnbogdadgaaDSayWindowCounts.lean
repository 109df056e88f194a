/- What is asked of the law WindowCounts, in plain Lean. No conditions. -/
import Derived.Test.YtdinbnbogdadgaaDKo
import Derived.Test.YtdinbnbogdadgaaDXf6
namespace Go.Proofs.Ytdinbnbogdadgaa.Op
open Go.RowKit Go.Proofs.YtdinbnbogdadgaaW.PrintWords Go.Proofs.Ytdinbnbogdadgaa.X
def WindowCountsPure : Prop := ∀ (a0_0 : Int) (a0_1 : Int) (a0_2 : Int) (l1 : List (S37)), ((Lit.int .i64 a0_0).wf = true) → ((Lit.int .i64 a0_1).wf = true) → ((Lit.int .i64 a0_2).wf = true) → (l1.length * 24 ≤ 140737488351232 ∧ l1.length ≤ 9223372036854775807 ∧ ∀ x ∈ l1, Good37 x) → ∃ k, leatlaw11_WindowCounts.f k a0_0 a0_1 a0_2 l1 = some true
end Go.Proofs.Ytdinbnbogdadgaa.Op
