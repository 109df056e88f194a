/- The plain statement of JobCircles: finitely many jobs, each reckoned by the kernel. No conditions. -/
import Derived.Test.YtpbmfdbfimcpjaaP
import Derived.Test.YtpbmfdbfimcpjaaXf4
namespace Go.Proofs.Ytpbmfdbfimcpjaa.Pure
open Go.RowKit Go.Proofs.Ytpbmfdbfimcpjaa.X Go.Proofs.YtpbmfdbfimcpjaaW.PrintWords
set_option linter.unusedVariables false
set_option linter.unusedSimpArgs false
set_option maxRecDepth 100000
theorem known_at : leatlaw8_known.f 60 = some true := by decide +kernel
theorem circ_all : ∀ n : Nat, n < 8 → ∀ a : Nat, a < n + 1 → ∀ b : Nat, b < a + 1 → leatlaw8_JobCircles.j0 60 (1 + (n : Int)) (a : Int) (b : Int) = some true := by decide +kernel
theorem place_some (a : Int) (n : Nat) (h : 0 < n) (hn : n < 4294967296) : ∃ m : Nat, m < n ∧ leathelp_Place.f a n = some (m : Int) := by
  unfold leathelp_Place.f
  rw [if_neg (by omega)]
  have h1 := Int.tmod_lt_of_pos a (b := n) (by omega)
  have h2 : -(n : Int) < Int.tmod a n := Int.lt_tmod_of_pos a (by omega)
  by_cases hc : Int.tmod a n < 0
  · rw [if_pos hc]
    refine ⟨(Int.tmod a n + n).toNat, by omega, ?_⟩
    congr 1; unfold wrap64; omega
  · rw [if_neg hc]
    exact ⟨(Int.tmod a n).toNat, by omega, by congr 1; omega⟩
theorem bind_of {α β : Type} {a : Option α} {x : α} {f : α → Option β} {r : Option β} (h : a = some x) (k : f x = r) : a.bind f = r := by subst h; exact k
theorem circ_at (k : Nat) (hk : leatlaw8_known.f k = some true) (hj : ∀ n : Nat, n < 8 → ∀ a : Nat, a < n + 1 → ∀ b : Nat, b < a + 1 → leatlaw8_JobCircles.j0 k (1 + (n : Int)) (a : Int) (b : Int) = some true) (a0 a1 a2 : Int) : leatlaw8_JobCircles.f k a0 a1 a2 = some true := by
  obtain ⟨n, hn, en⟩ := place_some a0 8 (by omega) (by omega)
  obtain ⟨x, hx, ex⟩ := place_some a1 (n + 1) (by omega) (by omega)
  obtain ⟨y, hy, ey⟩ := place_some a2 (n + 1) (by omega) (by omega)
  have hw : wrap64 (1 + (n : Int)) = 1 + (n : Int) := by unfold wrap64; omega
  have hw' : ((n + 1 : Nat) : Int) = 1 + (n : Int) := by omega
  have en' : leathelp_Place.f a0 8 = some (n : Int) := en
  have ex' : leathelp_Place.f a1 (wrap64 (1 + (n : Int))) = some (x : Int) := by rw [hw, ← hw']; exact ex
  have ey' : leathelp_Place.f a2 (wrap64 (1 + (n : Int))) = some (y : Int) := by rw [hw, ← hw']; exact ey
  unfold leatlaw8_JobCircles.f
  refine bind_of hk ?_
  refine (if_pos rfl).trans ?_
  refine bind_of en' ?_
  refine bind_of ex' ?_
  refine bind_of ey' ?_
  clear ex ey ex' ey' en en' hk
  by_cases hc : (y : Int) > x
  · refine (if_pos hc).trans ?_
    rw [hw]
    exact hj n hn y hy x (by omega)
  · refine (if_neg hc).trans ?_
    rw [hw]
    exact hj n hn x hx y (by omega)
theorem JobCircles : leatlaw8_JobCircles.Pure := fun a0 a1 a2 _ _ _ => ⟨60, circ_at 60 known_at circ_all a0 a1 a2⟩
end Go.Proofs.Ytpbmfdbfimcpjaa.Pure
