/- What is asked of the law DiskKeeps, in plain Lean. No conditions. -/
import Derived.Test.YtihbgdobicokpaaDKo
import Derived.Test.YtihbgdobicokpaaDLc3
namespace Go.Proofs.Ytihbgdobicokpaa.Op
open Go.RowKit Go.Proofs.YtihbgdobicokpaaW.PrintWords Go.Proofs.Ytihbgdobicokpaa.X
def DiskKeepsPure : Prop := ∀ (l0 : List (S30)) (a1 : ByteArray) (l2 : List Int) (l3 : List Int) (a4 : Bool), (l0.length * 96 ≤ 140737488351232 ∧ l0.length ≤ 9223372036854775807 ∧ ∀ x ∈ l0, Good30 x) → (a1.size ≤ 140737488351232) → (l2.length * 1 ≤ 140737488351232 ∧ l2.length ≤ 9223372036854775807 ∧ ∀ x ∈ l2, (Lit.int .u8 x).wf = true) → (l3.length * 8 ≤ 140737488351232 ∧ l3.length ≤ 9223372036854775807 ∧ ∀ x ∈ l3, (Lit.int .i64 x).wf = true) → leatlaw2_DiskKeeps.f l0 a1 l2 l3 a4 = some true
end Go.Proofs.Ytihbgdobicokpaa.Op
