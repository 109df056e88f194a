/- Proofs towards the laws of this seat, joined. No conditions beyond those typed. -/
import Derived.Test.YtihbgdobicokpaaDSayDiskKeeps
namespace Go.Proofs.Ytihbgdobicokpaa.Pure
open Go.RowKit Go.Proofs.Ytihbgdobicokpaa.X Go.Proofs.Ytihbgdobicokpaa.D Go.Proofs.Ytihbgdobicokpaa.Op
theorem good_smallK {l : List S30} (h : ∀ x ∈ l, Good30 x) : Small l ∧ GoodL l := by
 refine ⟨fun x hx => ?_, fun x hx => ?_⟩
 ·obtain ⟨_, _, h2, h3, ⟨h4, _⟩, ⟨h5, _⟩⟩ := h x hx
  exact ⟨by omega, by omega, by omega, by omega⟩
 ·obtain ⟨_, _, h2, h3, _⟩ := h x hx
  unfold maxLen
  exact ⟨by omega, by omega⟩
theorem DiskKeeps : Op.DiskKeepsPure := by
 intro l0 a1 l2 l3 a4 h0 h1 h2 h3
 unfold leatlaw2_DiskKeeps.f
 rw [if_pos ⟨by omega, (good_smallK h0.2.2).1, (good_smallK h0.2.2).2, by unfold maxLen; omega⟩]
end Go.Proofs.Ytihbgdobicokpaa.Pure
