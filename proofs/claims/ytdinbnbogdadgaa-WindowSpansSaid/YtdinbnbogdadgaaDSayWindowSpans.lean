/- What is asked of the law WindowSpans, in plain Lean. No conditions. -/
import Derived.Test.YtdinbnbogdadgaaDKo
import Derived.Test.YtdinbnbogdadgaaDXf3
namespace Go.Proofs.Ytdinbnbogdadgaa.Op
open Go.RowKit Go.Proofs.YtdinbnbogdadgaaW.PrintWords Go.Proofs.Ytdinbnbogdadgaa.X
def WindowSpansPure : Prop := ∀ (a0_0 : Int) (a0_1 : Int) (a0_2 : Int) (a1 : Int), ((Lit.int .i64 a0_0).wf = true) → ((Lit.int .i64 a0_1).wf = true) → ((Lit.int .i64 a0_2).wf = true) → ((Lit.int .i64 a1).wf = true) → ∃ k, leatlaw11_WindowSpans.f k a0_0 a0_1 a0_2 a1 = some true
end Go.Proofs.Ytdinbnbogdadgaa.Op
