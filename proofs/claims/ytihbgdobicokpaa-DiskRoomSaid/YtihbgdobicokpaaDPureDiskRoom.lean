/- Proofs towards the laws of this seat, joined. No conditions beyond those typed. -/
import Derived.Test.YtihbgdobicokpaaDSayDiskRoom
namespace Go.Proofs.Ytihbgdobicokpaa.Pure
open Go.RowKit Go.Proofs.Ytihbgdobicokpaa.X Go.Proofs.Ytihbgdobicokpaa.D Go.Proofs.Ytihbgdobicokpaa.Op
theorem good_smallR {l : List S30} (h : ∀ x ∈ l, Good30 x) : Small l ∧ GoodL l := by
 refine ⟨fun x hx => ?_, fun x hx => ?_⟩
 ·obtain ⟨_, _, h2, h3, ⟨h4, _⟩, ⟨h5, _⟩⟩ := h x hx
  exact ⟨by omega, by omega, by omega, by omega⟩
 ·obtain ⟨_, _, h2, h3, _⟩ := h x hx
  unfold maxLen
  exact ⟨by omega, by omega⟩
theorem DiskRoom : Op.DiskRoomPure := by
 intro a0 l1 h0 h1
 unfold leatlaw2_DiskRoom.f
 rw [if_pos ⟨by omega, (good_smallR h1.2.2).1, (good_smallR h1.2.2).2⟩]
end Go.Proofs.Ytihbgdobicokpaa.Pure
