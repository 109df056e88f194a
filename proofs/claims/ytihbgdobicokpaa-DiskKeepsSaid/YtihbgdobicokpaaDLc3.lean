/- Proofs towards the laws of this seat, joined. No conditions beyond those typed. -/
import Derived.Test.YtihbgdobicokpaaDLka
import Derived.Test.YtihbgdobicokpaaDLkb
namespace Go.Proofs.Ytihbgdobicokpaa.X
open Go.RowKit Go.Maps Go.Proofs.YtihbgdobicokpaaW.PrintWords Go.Proofs.Ytihbgdobicokpaa.D
set_option linter.unusedVariables false
open Classical in
noncomputable def leatlaw2_DiskKeeps.f (l0 : List S30) (a1 : ByteArray) (l2 l3 : List Int) (a4 : Bool) : Option Bool := if l0.length ≤ 140737488351232 ∧ Small l0 ∧ GoodL l0 ∧ a1.size ≤ maxLen then some true else none
theorem leatlaw2_DiskKeeps.calls (A0 : Option Addr) (c0 : Nat) (l0 : List S30) (a1 : ByteArray) (A2 : Option Addr) (c2 : Nat) (l2 : List Int) (A3 : Option Addr) (c3 : Nat) (l3 : List Int) (a4 : Bool) (r : Bool) (w : World) (hr0 : Kd.C k30 w A0 l0.length l0) (hc0 : l0.length ≤ c0) (hr2 : Kd.C (Kd.int .u8) w A2 l2.length l2) (hc2 : l2.length ≤ c2) (hr3 : Kd.C (Kd.int .i64) w A3 l3.length l3) (hc3 : l3.length ≤ c3) (h : leatlaw2_DiskKeeps.f l0 a1 l2 l3 a4 = some r) :
  Calls Try.prog 3 #[.slice A0 l0.length c0, .string a1, .slice A2 l2.length c2, .slice A3 l3.length c3, .bool a4] w fun e w' => e = .returned (.bool r) ∧ Below w.heap.size w w' := by
 unfold leatlaw2_DiskKeeps.f at h
 split at h
 ·rename_i hc
  cases h
  cases a4
  ·exact DiskKeeps_calls_a rfl hr0 hc0 hc.1 hc.2.1 hc.2.2.1 hc.2.2.2 hr2 hc2 hr3 hc3
  ·exact DiskKeeps_calls_b rfl hr0 hc0 hc.1 hc.2.1 hc.2.2.1 hc.2.2.2 hr2 hc2 hr3 hc3
 ·cases h
end Go.Proofs.Ytihbgdobicokpaa.X
