/- What is asked of the law StateOrder, in plain Lean. No conditions. -/
import Derived.Test.YtjegeghigfmkoaaMStateOrder25
import Derived.Test.YtjegeghigfmkoaaMStateOrder24
namespace Go.Proofs.Ytjegeghigfmkoaa.Op
open Go.RowKit Go.Proofs.YtjegeghigfmkoaaW.PrintWords Go.Proofs.Ytjegeghigfmkoaa.X
def StateOrderPure : Prop := ∀ (a0_0 : Int) (a0_1 : Int) (a0_2 : Int) (a1 : Int) (l2 : List (S39)) (a3 : Int), ((Lit.int .i64 a0_0).wf = true) → ((Lit.int .i64 a0_1).wf = true) → ((Lit.int .i64 a0_2).wf = true) → ((Lit.int .i64 a1).wf = true) → (l2.length * 24 ≤ 140737488351232 ∧ l2.length ≤ 9223372036854775807 ∧ ∀ x ∈ l2, Good39 x) → ((Lit.int .i64 a3).wf = true) → leatlaw12_StateOrder.f a0_0 a0_1 a0_2 a1 l2 a3 = some true
end Go.Proofs.Ytjegeghigfmkoaa.Op
namespace Go.Proofs.Ytjegeghigfmkoaa.Pure
open Go.RowKit Go.Proofs.Ytjegeghigfmkoaa.X Go.Proofs.Ytjegeghigfmkoaa.Op
theorem good_64o {l : List S39} (h : ∀ x ∈ l, Good39 x) : ∀ r ∈ l, (T.I64 r.f0 ∧ T.I64 r.f2) ∧ T.I64 r.f1 := fun r hr => by
  obtain ⟨h0, h1, h2⟩ := h r hr
  exact ⟨⟨T.i64_wf.1 h0, T.i64_wf.1 h2⟩, T.i64_wf.1 h1⟩
theorem StateOrder : Op.StateOrderPure := by
  intro a0 a1 a2 a l2 _ _ _ _ _ h2 _
  unfold leatlaw12_StateOrder.f
  rw [if_pos (good_64o h2.2.2)]
end Go.Proofs.Ytjegeghigfmkoaa.Pure
