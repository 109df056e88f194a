/- What is asked of the law DiskApart, in plain Lean. No conditions. -/
import Derived.Test.YtihbgdobicokpaaDKo
import Derived.Test.YtihbgdobicokpaaB8
namespace Go.Proofs.Ytihbgdobicokpaa.Op
open Go.RowKit Go.Proofs.YtihbgdobicokpaaW.PrintWords Go.Proofs.Ytihbgdobicokpaa.X
def DiskApartPure : Prop := ∀ (a0 : Int) (l1 : List (S30)) (l2 : List (S30)), ((Lit.int .i64 a0).wf = true) → (l1.length * 96 ≤ 140737488351232 ∧ l1.length ≤ 9223372036854775807 ∧ ∀ x ∈ l1, Good30 x) → (l2.length * 96 ≤ 140737488351232 ∧ l2.length ≤ 9223372036854775807 ∧ ∀ x ∈ l2, Good30 x) → leatlaw2_DiskApart.f a0 l1 l2 = some true
end Go.Proofs.Ytihbgdobicokpaa.Op
