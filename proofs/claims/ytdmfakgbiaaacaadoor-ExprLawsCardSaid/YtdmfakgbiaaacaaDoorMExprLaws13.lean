/- The kinds of this seat's structs, opened out of a row's reading. No conditions. -/
import Derived.Test.YtdmfakgbiaaacaaDoorMExprLaws8
import Derived.Test.YtdmfakgbiaaacaaDoorMExprLaws3
namespace Go.Proofs.YtdmfakgbiaaacaaDoor.Op
open Go.RowKit Go.Proofs.YtdmfakgbiaaacaaDoorW.PrintWords Go.Proofs.YtdmfakgbiaaacaaDoor.X
set_option linter.unusedVariables false
set_option maxRecDepth 100000
def G24 : Nat → S24 → Prop
  | 0, _ => False
  | n + 1, x => ((Lit.int .i64 x.f0).wf = true) ∧ ((Lit.int .i64 x.f1).wf = true) ∧ (x.f2.length * 40 ≤ 140737488351232 ∧ x.f2.length ≤ 9223372036854775807 ∧ ∀ y ∈ x.f2, G24 n y)
def Good24 (x : S24) : Prop := ∃ n, G24 n x
theorem up24 (n : Nat) : Opens n (Kd.upto F24 3 [24] n) 24 (G24 n) := by
  induction n with
  | zero => exact opens_zero
  | succ n ih => exact opens_iso (fun x : S24 => (x.f0, x.f1, x.f2)) (fun p => ⟨p.1, p.2.1, p.2.2⟩) (fun _ => rfl) (opens_struct Tryd.underlying24 (by first | rfl | kernel_rfl) (opens_more (by first | rfl | kernel_rfl) (by first | rfl | kernel_rfl) (opens_int .i64 Tryd.underlying3) (opens_more (by first | rfl | kernel_rfl) (by first | rfl | kernel_rfl) (opens_int .i64 Tryd.underlying2) (opens_one (by first | rfl | kernel_rfl) (by first | rfl | kernel_rfl) (Opens.less (opens_slice (B := 40) Tryd.underlying22 ((by kernel_rfl : Tryd.prog.cellsOf 24 = 3).trans (sz24 n).symm) (by kernel_rfl) ih))))))
theorem opens24 (n : Nat) : Opens n k24 24 Good24 := opens_fix up24 n
end Go.Proofs.YtdmfakgbiaaacaaDoor.Op
