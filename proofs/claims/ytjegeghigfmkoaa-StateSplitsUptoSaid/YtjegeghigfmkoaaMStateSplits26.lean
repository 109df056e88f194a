/- What is asked of the law StateSplits, in plain Lean. No conditions. -/
import Derived.Test.YtjegeghigfmkoaaMStateSplits25
import Derived.Test.YtjegeghigfmkoaaMStateSplits24
namespace Go.Proofs.Ytjegeghigfmkoaa.Op
open Go.RowKit Go.Proofs.YtjegeghigfmkoaaW.PrintWords Go.Proofs.Ytjegeghigfmkoaa.X
def StateSplitsPure : Prop := ∀ (a0_0 : Int) (a0_1 : Int) (a0_2 : Int) (a1 : Int) (l2 : List (S39)) (l3 : List (S39)) (a4 : Int) (a5 : Int), ((Lit.int .i64 a0_0).wf = true) → ((Lit.int .i64 a0_1).wf = true) → ((Lit.int .i64 a0_2).wf = true) → ((Lit.int .i64 a1).wf = true) → (l2.length * 24 ≤ 140737488351232 ∧ l2.length ≤ 9223372036854775807 ∧ ∀ x ∈ l2, Good39 x) → (l3.length * 24 ≤ 140737488351232 ∧ l3.length ≤ 9223372036854775807 ∧ ∀ x ∈ l3, Good39 x) → ((Lit.int .i64 a4).wf = true) → ((Lit.int .i64 a5).wf = true) → leatlaw12_StateSplits.f a0_0 a0_1 a0_2 a1 l2 l3 a4 a5 = some true
end Go.Proofs.Ytjegeghigfmkoaa.Op
namespace Go.Proofs.Ytjegeghigfmkoaa.Pure
open Go.RowKit Go.Proofs.Ytjegeghigfmkoaa.X Go.Proofs.Ytjegeghigfmkoaa.Op
theorem good_64s {l : List S39} (h : ∀ x ∈ l, Good39 x) : ∀ r ∈ l, T.I64 r.f0 ∧ T.I64 r.f2 := fun r hr => by
  obtain ⟨h0, _, h2⟩ := h r hr
  exact ⟨T.i64_wf.1 h0, T.i64_wf.1 h2⟩
theorem StateSplits : Op.StateSplitsPure := by
  intro a0 a1 a2 a l2 l3 a4 a5 _ _ _ _ h2 h3 _ _
  unfold leatlaw12_StateSplits.f
  rw [if_pos ⟨good_64s h2.2.2, good_64s h3.2.2⟩]
end Go.Proofs.Ytjegeghigfmkoaa.Pure
