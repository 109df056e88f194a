/- The kinds of this seat's structs, opened out of a row's reading. No conditions. -/
import Derived.Test.YtdinbnbogdadgaaMWindowFires10
import Derived.Test.YtdinbnbogdadgaaMWindowFires3
namespace Go.Proofs.Ytdinbnbogdadgaa.Op
open Go.RowKit Go.Proofs.YtdinbnbogdadgaaW.PrintWords Go.Proofs.Ytdinbnbogdadgaa.X
set_option linter.unusedVariables false
set_option maxRecDepth 100000
def Good31 (x : S31) : Prop := ((Lit.int .i64 x.f0).wf = true) ∧ ((Lit.int .i64 x.f1).wf = true)
theorem opens31 (n : Nat) : Opens n k31 31 Good31 := opens_iso (fun x : S31 => (x.f0, x.f1)) (fun p => ⟨p.1, p.2⟩) (fun _ => rfl) (opens_st Try.underlying31 (by first | rfl | kernel_rfl) (fun n => (opens_more (by first | rfl | kernel_rfl) (by first | rfl | kernel_rfl) (opens_int .i64 Try.underlying2) (opens_one (by first | rfl | kernel_rfl) (by first | rfl | kernel_rfl) (opens_int .i64 Try.underlying2)))) n)
def Good46 (x : S46) : Prop := ((Lit.int .i64 x.f0).wf = true) ∧ (Good31 x.f1) ∧ ((Lit.int .i64 x.f2).wf = true)
theorem opens46 (n : Nat) : Opens n k46 46 Good46 := opens_iso (fun x : S46 => (x.f0, x.f1, x.f2)) (fun p => ⟨p.1, p.2.1, p.2.2⟩) (fun _ => rfl) (opens_st Try.underlying46 (by first | rfl | kernel_rfl) (fun n => (opens_more (by first | rfl | kernel_rfl) (by first | rfl | kernel_rfl) (opens_int .i64 Try.underlying2) (opens_more (by first | rfl | kernel_rfl) (by first | rfl | kernel_rfl) (opens31 n) (opens_one (by first | rfl | kernel_rfl) (by first | rfl | kernel_rfl) (opens_int .i64 Try.underlying2))))) n)
end Go.Proofs.Ytdinbnbogdadgaa.Op
