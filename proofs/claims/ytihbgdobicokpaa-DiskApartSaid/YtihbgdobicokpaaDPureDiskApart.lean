/- Proofs towards the laws of this seat, joined. No conditions beyond those typed. -/
import Derived.Test.YtihbgdobicokpaaDSayDiskApart
namespace Go.Proofs.Ytihbgdobicokpaa.Pure
open Go.RowKit Go.Proofs.Ytihbgdobicokpaa.X Go.Proofs.Ytihbgdobicokpaa.D Go.Proofs.Ytihbgdobicokpaa.Op
theorem good_smallA {l : List S30} (h : ∀ x ∈ l, Good30 x) : Small l ∧ GoodL l := by
 refine ⟨fun x hx => ?_, fun x hx => ?_⟩
 ·obtain ⟨_, _, h2, h3, ⟨h4, _⟩, ⟨h5, _⟩⟩ := h x hx
  exact ⟨by omega, by omega, by omega, by omega⟩
 ·obtain ⟨_, _, h2, h3, _⟩ := h x hx
  unfold maxLen
  exact ⟨by omega, by omega⟩
theorem wf_le {a : Int} (h : (Lit.int .i64 a).wf = true) : a ≤ 9223372036854775807 := by
 have h2 : -9223372036854775808 ≤ a ∧ a ≤ 9223372036854775807 := by simpa [Lit.wf, IntKind.min, IntKind.max, IntKind.signed, IntKind.bits] using h
 exact h2.2
theorem DiskApart : Op.DiskApartPure := by
 intro a0 l1 l2 h0 h1 h2
 unfold leatlaw2_DiskApart.f
 rw [if_pos ⟨wf_le h0, ⟨by omega, (good_smallA h1.2.2).1, (good_smallA h1.2.2).2⟩, ⟨by omega, (good_smallA h2.2.2).1, (good_smallA h2.2.2).2⟩⟩]
end Go.Proofs.Ytihbgdobicokpaa.Pure
