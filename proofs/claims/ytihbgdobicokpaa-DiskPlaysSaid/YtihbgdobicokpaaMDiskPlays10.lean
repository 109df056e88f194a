/- The kinds of this seat's structs, opened out of a row's reading. No conditions. -/
import Derived.Test.YtihbgdobicokpaaMDiskPlays6
import Derived.Test.YtihbgdobicokpaaMDiskPlays3
namespace Go.Proofs.Ytihbgdobicokpaa.Op
open Go.RowKit Go.Proofs.YtihbgdobicokpaaW.PrintWords Go.Proofs.Ytihbgdobicokpaa.X
set_option linter.unusedVariables false
set_option maxRecDepth 100000
def Good30 (x : S30) : Prop := ((Lit.int .i64 x.f0).wf = true) ∧ ((Lit.int .i64 x.f1).wf = true) ∧ (x.f2.size ≤ 140737488351232) ∧ (x.f3.size ≤ 140737488351232) ∧ (x.f4.length * 1 ≤ 140737488351232 ∧ x.f4.length ≤ 9223372036854775807 ∧ ∀ y ∈ x.f4, (Lit.int .u8 y).wf = true) ∧ (x.f5.length * 8 ≤ 140737488351232 ∧ x.f5.length ≤ 9223372036854775807 ∧ ∀ y ∈ x.f5, (Lit.int .i64 y).wf = true)
theorem opens30 (n : Nat) : Opens n k30 30 Good30 := opens_iso (fun x : S30 => (x.f0, x.f1, x.f2, x.f3, x.f4, x.f5)) (fun p => ⟨p.1, p.2.1, p.2.2.1, p.2.2.2.1, p.2.2.2.2.1, p.2.2.2.2.2⟩) (fun _ => rfl) (opens_st Try.underlying30 (by first | rfl | kernel_rfl) (fun n => (opens_more (by first | rfl | kernel_rfl) (by first | rfl | kernel_rfl) (opens_int .i64 Try.underlying3) (opens_more (by first | rfl | kernel_rfl) (by first | rfl | kernel_rfl) (opens_int .i64 Try.underlying3) (opens_more (by first | rfl | kernel_rfl) (by first | rfl | kernel_rfl) (opens_string Try.underlying9) (opens_more (by first | rfl | kernel_rfl) (by first | rfl | kernel_rfl) (opens_string Try.underlying9) (opens_more (by first | rfl | kernel_rfl) (by first | rfl | kernel_rfl) (opens_sl (B := 1) Try.underlying23 (by first | rfl | kernel_rfl) (by kernel_rfl) (fun n => (opens_int .u8 Try.underlying5)) n) (opens_one (by first | rfl | kernel_rfl) (by first | rfl | kernel_rfl) (opens_sl (B := 8) Try.underlying24 (by first | rfl | kernel_rfl) (by kernel_rfl) (fun n => (opens_int .i64 Try.underlying3)) n)))))))) n)
end Go.Proofs.Ytihbgdobicokpaa.Op
