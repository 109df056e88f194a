/- What is asked of the law StateOpens, in plain Lean. No conditions. -/
import Derived.Test.YtjegeghigfmkoaaMStateOpens25
import Derived.Test.YtjegeghigfmkoaaMStateOpens24
namespace Go.Proofs.Ytjegeghigfmkoaa.Op
open Go.RowKit Go.Proofs.YtjegeghigfmkoaaW.PrintWords Go.Proofs.Ytjegeghigfmkoaa.X
def StateOpensPure : Prop := ∀ (a0_0 : Int) (a0_1 : Int) (a0_2 : Int) (a1 : Int) (l2 : List Int) (l3 : List (S39)) (a4 : Int) (a5 : Int), ((Lit.int .i64 a0_0).wf = true) → ((Lit.int .i64 a0_1).wf = true) → ((Lit.int .i64 a0_2).wf = true) → ((Lit.int .i64 a1).wf = true) → (l2.length * 1 ≤ 140737488351232 ∧ l2.length ≤ 9223372036854775807 ∧ ∀ x ∈ l2, (Lit.int .u8 x).wf = true) → (l3.length * 24 ≤ 140737488351232 ∧ l3.length ≤ 9223372036854775807 ∧ ∀ x ∈ l3, Good39 x) → ((Lit.int .i64 a4).wf = true) → ((Lit.int .u8 a5).wf = true) → leatlaw12_StateOpens.f a0_0 a0_1 a0_2 a1 l2 l3 a4 a5 = some true
end Go.Proofs.Ytjegeghigfmkoaa.Op
namespace Go.Proofs.Ytjegeghigfmkoaa.Pure
open Go.RowKit Go.Proofs.Ytjegeghigfmkoaa.X Go.Proofs.Ytjegeghigfmkoaa.Op
theorem wf_8 {x : Int} (h : (Lit.int .u8 x).wf = true) : 0 ≤ x ∧ x < 256 := by
  have h2 : 0 ≤ x ∧ x ≤ 255 := by simpa [Lit.wf, IntKind.min, IntKind.max, IntKind.signed, IntKind.bits] using h
  omega
theorem good_64 {l : List S39} (h : ∀ x ∈ l, Good39 x) : ∀ r ∈ l, T.I64 r.f0 ∧ T.I64 r.f2 := fun r hr => by
  obtain ⟨h0, _, h2⟩ := h r hr
  exact ⟨T.i64_wf.1 h0, T.i64_wf.1 h2⟩
theorem StateOpens : Op.StateOpensPure := by
  intro a0 a1 a2 a l2 l3 a4 a5 _ _ _ _ h2 h3 _ _
  unfold leatlaw12_StateOpens.f
  rw [if_pos ⟨fun x hx => wf_8 (h2.2.2 x hx), good_64 h3.2.2⟩]
end Go.Proofs.Ytjegeghigfmkoaa.Pure
