/- What is asked of the law DiskPlays, in plain Lean. No conditions. -/
import Derived.Test.YtihbgdobicokpaaMDiskPlays10
import Derived.Test.YtihbgdobicokpaaMDiskPlays9
namespace Go.Proofs.Ytihbgdobicokpaa.Op
open Go.RowKit Go.Proofs.YtihbgdobicokpaaW.PrintWords Go.Proofs.Ytihbgdobicokpaa.X
def DiskPlaysPure : Prop := ∀ (a0 : Int) (l1 : List (S30)), ((Lit.int .i64 a0).wf = true) → (l1.length * 96 ≤ 140737488351232 ∧ l1.length ≤ 9223372036854775807 ∧ ∀ x ∈ l1, Good30 x) → leatlaw2_DiskPlays.f a0 l1 = some true
end Go.Proofs.Ytihbgdobicokpaa.Op
namespace Go.Proofs.Ytihbgdobicokpaa.Pure
open Go.RowKit Go.Proofs.Ytihbgdobicokpaa.X Go.Proofs.Ytihbgdobicokpaa.D Go.Proofs.Ytihbgdobicokpaa.Op
theorem wf_le7 {a : Int} (h : (Lit.int .i64 a).wf = true) : a ≤ 9223372036854775807 := by
  have h2 : -9223372036854775808 ≤ a ∧ a ≤ 9223372036854775807 := by simpa [Lit.wf, IntKind.min, IntKind.max, IntKind.signed, IntKind.bits] using h
  exact h2.2
theorem good_small7 {l : List S30} (h : ∀ x ∈ l, Good30 x) : Small l ∧ GoodL l ∧ GoodN l := by
  refine ⟨fun x hx => ?_, fun x hx => ?_, fun x hx => ?_⟩
  · obtain ⟨_, _, h2, h3, ⟨h4, _⟩, ⟨h5, _⟩⟩ := h x hx
    exact ⟨by omega, by omega, by omega, by omega⟩
  · obtain ⟨_, _, h2, h3, _⟩ := h x hx
    unfold maxLen
    exact ⟨by omega, by omega⟩
  · obtain ⟨_, h1, _⟩ := h x hx
    exact wf_le7 h1
theorem DiskPlays : Op.DiskPlaysPure := by
  intro a0 l1 h0 h1
  unfold leatlaw2_DiskPlays.f
  rw [if_pos ⟨wf_le7 h0, by omega, (good_small7 h1.2.2).1, (good_small7 h1.2.2).2.1, (good_small7 h1.2.2).2.2⟩]
end Go.Proofs.Ytihbgdobicokpaa.Pure
