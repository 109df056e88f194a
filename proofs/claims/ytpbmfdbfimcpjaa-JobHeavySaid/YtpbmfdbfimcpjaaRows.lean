/-
  NARROWER THAN 'FOR EVERY INPUT', by the rows' own cells (each row's printed sentence says how): JobOrder: loops.
  DERIVED. THE GIVEN ROWS OF THIS SEAT. 3 by the template 'for every input the law returns true; each argument reads behind the call as it read before'; 0 by the template 'total and deterministic' (their statements: YtpbmfdbfimcpjaaTotals.lean).
  GIVEN WITH THE SEED: the statements are not yours to turn. If you find one false, say at which input.
  Laid BY PROGRAM, IN A SANDBOX (cutbox-rows.mjs): the forced cells as the released guide's own fill.sh prints them over the translation 500c1482cf76ee2f… (all of the seat's roots in one cut). By AI agents, Wed Nov 11 2026. No macro, syntax, notation, axiom, sorry.
-/
import Derived.Test.YtpbmfdbfimcpjaaChecked
import GoSem.Claim
import GoSem.ClaimJoined
import GoSem.ClaimMapViews
import Derived.JoinedTies
import Derived.KernelRfl
namespace Go.Proofs.Ytpbmfdbfimcpjaa
/- THE CELL 'sum', in the pinned program and in every row, IS THE sha256 OF THE DUMP (.gsa) THAT YtpbmfdbfimcpjaaProg.lean LOADS. Nothing in Lean hashes anything: it is a label: what it is worth is what the hold of that sum in a sandbox is worth. -/
noncomputable def Try.pinned : Pinned := { name := "ytpbmfdbfimcpjaa", sum := "500c1482cf76ee2fdeef31bd47234fb1c26bf4a3e11e43ec5594f39a546084d8", checked := Try.checked }
namespace Rows
def none {H : Type} : Left H := { results := [], args := [] }

/-- 'leatlaw8.JobOrder': WHATEVER THE INPUT: true; the input reads as it did. -/
def jobOrderSpec : ChangeSpec := { name := "jobOrder", fn := fun _ => fun
  | [d] => { results := [.lit (.bool true)], args := [d] }
  | _ => none }
def jobOrderRow : OpenClaim := { program := "ytpbmfdbfimcpjaa", sum := "500c1482cf76ee2fdeef31bd47234fb1c26bf4a3e11e43ec5594f39a546084d8", func := "leat/leatlaw8.JobOrder", spec := "jobOrder", unfollowed := true, recurses := true, loops := true, apart := false }
def JobOrderSaid : Prop := jobOrderRow.holds Try.pinned (OpenSpec.ofChange jobOrderSpec)

/-- ITS FALSE NEIGHBOUR: 'it returns false'. Refute it at one input. -/
def jobOrderWrong : ChangeSpec := { name := "jobOrder", fn := fun _ => fun
  | [d] => { results := [.lit (.bool false)], args := [d] }
  | _ => none }
def JobOrderWrongFalsely : Prop := jobOrderRow.holds Try.pinned (OpenSpec.ofChange jobOrderWrong)

/-- 'leatlaw8.JobCircles': WHATEVER THE INPUT: true; the input reads as it did. -/
def jobCirclesSpec : ChangeSpec := { name := "jobCircles", fn := fun _ => fun
  | [d1, d2, d3] => { results := [.lit (.bool true)], args := [d1, d2, d3] }
  | _ => none }
def jobCirclesRow : OpenClaim := { program := "ytpbmfdbfimcpjaa", sum := "500c1482cf76ee2fdeef31bd47234fb1c26bf4a3e11e43ec5594f39a546084d8", func := "leat/leatlaw8.JobCircles", spec := "jobCircles", unfollowed := true, recurses := true, apart := false }
def JobCirclesSaid : Prop := jobCirclesRow.holds Try.pinned (OpenSpec.ofChange jobCirclesSpec)

/-- ITS FALSE NEIGHBOUR: 'it returns false'. Refute it at one input. -/
def jobCirclesWrong : ChangeSpec := { name := "jobCircles", fn := fun _ => fun
  | [d1, d2, d3] => { results := [.lit (.bool false)], args := [d1, d2, d3] }
  | _ => none }
def JobCirclesWrongFalsely : Prop := jobCirclesRow.holds Try.pinned (OpenSpec.ofChange jobCirclesWrong)

/-- 'leatlaw8.JobHeavy': WHATEVER THE INPUT: true; the input reads as it did. -/
def jobHeavySpec : ChangeSpec := { name := "jobHeavy", fn := fun _ => fun
  | [d] => { results := [.lit (.bool true)], args := [d] }
  | _ => none }
def jobHeavyRow : OpenClaim := { program := "ytpbmfdbfimcpjaa", sum := "500c1482cf76ee2fdeef31bd47234fb1c26bf4a3e11e43ec5594f39a546084d8", func := "leat/leatlaw8.JobHeavy", spec := "jobHeavy", unfollowed := true, recurses := true, apart := false }
def JobHeavySaid : Prop := jobHeavyRow.holds Try.pinned (OpenSpec.ofChange jobHeavySpec)

/-- ITS FALSE NEIGHBOUR: 'it returns false'. Refute it at one input. -/
def jobHeavyWrong : ChangeSpec := { name := "jobHeavy", fn := fun _ => fun
  | [d] => { results := [.lit (.bool false)], args := [d] }
  | _ => none }
def JobHeavyWrongFalsely : Prop := jobHeavyRow.holds Try.pinned (OpenSpec.ofChange jobHeavyWrong)

/- THE SECOND FORM. 'bulk': how many values and letters a reading holds, each counted each time it is reached (what is shared counts as often as it is met; a slice's spare places count too). A statement '..UptoSaid' is the law's where the arguments, and the package variables that the reading takes, are together of bulk at most 1048576: NARROWER than '..Said'. Prove '..Said' where nothing that the law and all that it calls make is longer than what came in: it says more and counts as full. Else prove '..UptoSaid'. A law counts once. -/
mutual
def uptoBulk {H : Type} : DataW H → Nat
  | .lit (.string bytes) => bytes.length + 1
  | .lit _ => 1
  | .nil => 1
  | .ptr d => uptoBulk d + 1
  | .slice elems spare => uptoBulkAll elems + uptoBulkAll spare + 1
  | .agg parts => uptoBulkAll parts + 1
  | .iface _ d => uptoBulk d + 1
  | .map entries => uptoBulkEntries entries + 1
  | .held _ => 1
def uptoBulkAll {H : Type} : List (DataW H) → Nat
  | [] => 0
  | d :: r => uptoBulk d + uptoBulkAll r
def uptoBulkEntries {H : Type} : List (Lit × DataW H) → Nat
  | [] => 0
  | x :: r => uptoBulkEntry x + uptoBulkEntries r
def uptoBulkEntry {H : Type} : Lit × DataW H → Nat
  | (.string bytes, d) => bytes.length + uptoBulk d + 1
  | (_, d) => uptoBulk d + 1
 end
def uptoSmall : (H : Type) → List (DataW H) → Bool := fun _ ds => decide (uptoBulkAll ds ≤ 1048576)
def OpenSpec.upto (s : _root_.Go.ChangeSpec) : _root_.Go.OpenSpec := { _root_.Go.OpenSpec.ofChange s with cond := some uptoSmall }

/-- 'leatlaw8.JobOrder', WHERE WHAT IT READS IS OF BULK AT MOST 1048576: true; the input reads as it did. -/
def jobOrderUptoRow : OpenClaim := { program := "ytpbmfdbfimcpjaa", sum := "500c1482cf76ee2fdeef31bd47234fb1c26bf4a3e11e43ec5594f39a546084d8", func := "leat/leatlaw8.JobOrder", spec := "jobOrder", unfollowed := true, recurses := true, loops := true, apart := false, narrowed := true }
def JobOrderUptoSaid : Prop := jobOrderUptoRow.holds Try.pinned (OpenSpec.upto jobOrderSpec)

/-- 'leatlaw8.JobCircles', WHERE WHAT IT READS IS OF BULK AT MOST 1048576: true; the input reads as it did. -/
def jobCirclesUptoRow : OpenClaim := { program := "ytpbmfdbfimcpjaa", sum := "500c1482cf76ee2fdeef31bd47234fb1c26bf4a3e11e43ec5594f39a546084d8", func := "leat/leatlaw8.JobCircles", spec := "jobCircles", unfollowed := true, recurses := true, apart := false, narrowed := true }
def JobCirclesUptoSaid : Prop := jobCirclesUptoRow.holds Try.pinned (OpenSpec.upto jobCirclesSpec)

/-- 'leatlaw8.JobHeavy', WHERE WHAT IT READS IS OF BULK AT MOST 1048576: true; the input reads as it did. -/
def jobHeavyUptoRow : OpenClaim := { program := "ytpbmfdbfimcpjaa", sum := "500c1482cf76ee2fdeef31bd47234fb1c26bf4a3e11e43ec5594f39a546084d8", func := "leat/leatlaw8.JobHeavy", spec := "jobHeavy", unfollowed := true, recurses := true, apart := false, narrowed := true }
def JobHeavyUptoSaid : Prop := jobHeavyUptoRow.holds Try.pinned (OpenSpec.upto jobHeavySpec)

end Rows
end Go.Proofs.Ytpbmfdbfimcpjaa
