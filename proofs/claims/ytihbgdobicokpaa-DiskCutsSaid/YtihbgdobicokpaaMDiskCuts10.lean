/- What is asked of the law DiskCuts, in plain Lean. No conditions. -/
import Derived.Test.YtihbgdobicokpaaMDiskCuts9
import Derived.Test.YtihbgdobicokpaaMDiskCuts8
namespace Go.Proofs.Ytihbgdobicokpaa.Op
open Go.RowKit Go.Proofs.YtihbgdobicokpaaW.PrintWords Go.Proofs.Ytihbgdobicokpaa.X
def DiskCutsPure : Prop := ∀ (l0 : List (S30)) (a1 : Int), (l0.length * 96 ≤ 140737488351232 ∧ l0.length ≤ 9223372036854775807 ∧ ∀ x ∈ l0, Good30 x) → ((Lit.int .i64 a1).wf = true) → leatlaw2_DiskCuts.f l0 a1 = some true
end Go.Proofs.Ytihbgdobicokpaa.Op
namespace Go.Proofs.Ytihbgdobicokpaa.Pure
open Go.RowKit Go.Proofs.Ytihbgdobicokpaa.X Go.Proofs.Ytihbgdobicokpaa.D Go.Proofs.Ytihbgdobicokpaa.Op
theorem good_small {l : List S30} (h : ∀ x ∈ l, Good30 x) : Small l ∧ GoodL l := by
  refine ⟨fun x hx => ?_, fun x hx => ?_⟩
  · obtain ⟨_, _, h2, h3, ⟨h4, _⟩, ⟨h5, _⟩⟩ := h x hx
    exact ⟨by omega, by omega, by omega, by omega⟩
  · obtain ⟨_, _, h2, h3, _⟩ := h x hx
    unfold maxLen
    exact ⟨by omega, by omega⟩
theorem DiskCuts : Op.DiskCutsPure := by
  intro l0 a1 h0 h1
  unfold leatlaw2_DiskCuts.f
  rw [if_pos ⟨by omega, (good_small h0.2.2).1, (good_small h0.2.2).2⟩]
end Go.Proofs.Ytihbgdobicokpaa.Pure
