/- What is asked of the law DiskRoom, in plain Lean. No conditions. -/
import Derived.Test.YtihbgdobicokpaaDKo
import Derived.Test.YtihbgdobicokpaaDLc4
namespace Go.Proofs.Ytihbgdobicokpaa.Op
open Go.RowKit Go.Proofs.YtihbgdobicokpaaW.PrintWords Go.Proofs.Ytihbgdobicokpaa.X
def DiskRoomPure : Prop := ∀ (a0 : Int) (l1 : List (S30)), ((Lit.int .i64 a0).wf = true) → (l1.length * 96 ≤ 140737488351232 ∧ l1.length ≤ 9223372036854775807 ∧ ∀ x ∈ l1, Good30 x) → leatlaw2_DiskRoom.f a0 l1 = some true
end Go.Proofs.Ytihbgdobicokpaa.Op
