/-
  No cell of these rows narrows 'for every input' (looked for: loops, veiled, ifaces, maps, wideKeys, modest, calm, conditions, laid).
  DERIVED. THE GIVEN ROWS OF THIS SEAT. 6 by the template 'for every input the law returns true; each argument reads behind the call as it read before'; 0 by the template 'total and deterministic' (their statements: YtjegeghigfmkoaaTotals.lean).
  GIVEN WITH THE SEED: the statements are not yours to turn. If you find one false, say at which input.
  Laid BY PROGRAM, IN A SANDBOX (cutbox-rows.mjs): the forced cells as the released guide's own fill.sh prints them over the translation f8262c31311bbd87… (all of the seat's roots in one cut). By AI agents, Wed Nov 11 2026. No macro, syntax, notation, axiom, sorry.
-/
import Derived.Test.YtjegeghigfmkoaaChecked
import GoSem.Claim
import GoSem.ClaimJoined
import GoSem.ClaimMapViews
import Derived.JoinedTies
import Derived.KernelRfl
namespace Go.Proofs.Ytjegeghigfmkoaa
/- THE CELL 'sum', in the pinned program and in every row, IS THE sha256 OF THE DUMP (.gsa) THAT YtjegeghigfmkoaaProg.lean LOADS. Nothing in Lean hashes anything: it is a label: what it is worth is what the hold of that sum in a sandbox is worth. -/
noncomputable def Try.pinned : Pinned := { name := "ytjegeghigfmkoaa", sum := "f8262c31311bbd874a59383b5b1067cdbe4f2603340ed3281268e360a360d6f8", checked := Try.checked }
namespace Rows
def none {H : Type} : Left H := { results := [], args := [] }

/-- 'leatlaw12.StatePlays': WHATEVER THE INPUT: true; the input reads as it did. -/
def statePlaysSpec : ChangeSpec := { name := "statePlays", fn := fun _ => fun
  | [d1, d2, d3] => { results := [.lit (.bool true)], args := [d1, d2, d3] }
  | _ => none }
def statePlaysRow : OpenClaim := { program := "ytjegeghigfmkoaa", sum := "f8262c31311bbd874a59383b5b1067cdbe4f2603340ed3281268e360a360d6f8", func := "leat/leatlaw12.StatePlays", spec := "statePlays", unfollowed := true, recurses := true, plainKeys := false, apart := false }
def StatePlaysSaid : Prop := statePlaysRow.holds Try.pinned (OpenSpec.ofChange statePlaysSpec)

/-- ITS FALSE NEIGHBOUR: 'it returns false'. Refute it at one input. -/
def statePlaysWrong : ChangeSpec := { name := "statePlays", fn := fun _ => fun
  | [d1, d2, d3] => { results := [.lit (.bool false)], args := [d1, d2, d3] }
  | _ => none }
def StatePlaysWrongFalsely : Prop := statePlaysRow.holds Try.pinned (OpenSpec.ofChange statePlaysWrong)

/-- 'leatlaw12.StateOrder': WHATEVER THE INPUT: true; the input reads as it did. -/
def stateOrderSpec : ChangeSpec := { name := "stateOrder", fn := fun _ => fun
  | [d1, d2, d3, d4] => { results := [.lit (.bool true)], args := [d1, d2, d3, d4] }
  | _ => none }
def stateOrderRow : OpenClaim := { program := "ytjegeghigfmkoaa", sum := "f8262c31311bbd874a59383b5b1067cdbe4f2603340ed3281268e360a360d6f8", func := "leat/leatlaw12.StateOrder", spec := "stateOrder", unfollowed := true, recurses := true, plainKeys := false, apart := false }
def StateOrderSaid : Prop := stateOrderRow.holds Try.pinned (OpenSpec.ofChange stateOrderSpec)

/-- ITS FALSE NEIGHBOUR: 'it returns false'. Refute it at one input. -/
def stateOrderWrong : ChangeSpec := { name := "stateOrder", fn := fun _ => fun
  | [d1, d2, d3, d4] => { results := [.lit (.bool false)], args := [d1, d2, d3, d4] }
  | _ => none }
def StateOrderWrongFalsely : Prop := stateOrderRow.holds Try.pinned (OpenSpec.ofChange stateOrderWrong)

/-- 'leatlaw12.StateOpens': WHATEVER THE INPUT: true; the input reads as it did. -/
def stateOpensSpec : ChangeSpec := { name := "stateOpens", fn := fun _ => fun
  | [d1, d2, d3, d4, d5, d6] => { results := [.lit (.bool true)], args := [d1, d2, d3, d4, d5, d6] }
  | _ => none }
def stateOpensRow : OpenClaim := { program := "ytjegeghigfmkoaa", sum := "f8262c31311bbd874a59383b5b1067cdbe4f2603340ed3281268e360a360d6f8", func := "leat/leatlaw12.StateOpens", spec := "stateOpens", unfollowed := true, recurses := true, plainKeys := false, apart := false }
def StateOpensSaid : Prop := stateOpensRow.holds Try.pinned (OpenSpec.ofChange stateOpensSpec)

/-- ITS FALSE NEIGHBOUR: 'it returns false'. Refute it at one input. -/
def stateOpensWrong : ChangeSpec := { name := "stateOpens", fn := fun _ => fun
  | [d1, d2, d3, d4, d5, d6] => { results := [.lit (.bool false)], args := [d1, d2, d3, d4, d5, d6] }
  | _ => none }
def StateOpensWrongFalsely : Prop := stateOpensRow.holds Try.pinned (OpenSpec.ofChange stateOpensWrong)

/-- 'leatlaw12.StateTimers': WHATEVER THE INPUT: true; the input reads as it did. -/
def stateTimersSpec : ChangeSpec := { name := "stateTimers", fn := fun _ => fun
  | [d1, d2, d3] => { results := [.lit (.bool true)], args := [d1, d2, d3] }
  | _ => none }
def stateTimersRow : OpenClaim := { program := "ytjegeghigfmkoaa", sum := "f8262c31311bbd874a59383b5b1067cdbe4f2603340ed3281268e360a360d6f8", func := "leat/leatlaw12.StateTimers", spec := "stateTimers", unfollowed := true, recurses := true, plainKeys := false, apart := false }
def StateTimersSaid : Prop := stateTimersRow.holds Try.pinned (OpenSpec.ofChange stateTimersSpec)

/-- ITS FALSE NEIGHBOUR: 'it returns false'. Refute it at one input. -/
def stateTimersWrong : ChangeSpec := { name := "stateTimers", fn := fun _ => fun
  | [d1, d2, d3] => { results := [.lit (.bool false)], args := [d1, d2, d3] }
  | _ => none }
def StateTimersWrongFalsely : Prop := stateTimersRow.holds Try.pinned (OpenSpec.ofChange stateTimersWrong)

/-- 'leatlaw12.StateGroups': WHATEVER THE INPUT: true; the input reads as it did. -/
def stateGroupsSpec : ChangeSpec := { name := "stateGroups", fn := fun _ => fun
  | [d1, d2, d3] => { results := [.lit (.bool true)], args := [d1, d2, d3] }
  | _ => none }
def stateGroupsRow : OpenClaim := { program := "ytjegeghigfmkoaa", sum := "f8262c31311bbd874a59383b5b1067cdbe4f2603340ed3281268e360a360d6f8", func := "leat/leatlaw12.StateGroups", spec := "stateGroups", unfollowed := true, recurses := true, plainKeys := false, apart := false }
def StateGroupsSaid : Prop := stateGroupsRow.holds Try.pinned (OpenSpec.ofChange stateGroupsSpec)

/-- ITS FALSE NEIGHBOUR: 'it returns false'. Refute it at one input. -/
def stateGroupsWrong : ChangeSpec := { name := "stateGroups", fn := fun _ => fun
  | [d1, d2, d3] => { results := [.lit (.bool false)], args := [d1, d2, d3] }
  | _ => none }
def StateGroupsWrongFalsely : Prop := stateGroupsRow.holds Try.pinned (OpenSpec.ofChange stateGroupsWrong)

/-- 'leatlaw12.StateSplits': WHATEVER THE INPUT: true; the input reads as it did. -/
def stateSplitsSpec : ChangeSpec := { name := "stateSplits", fn := fun _ => fun
  | [d1, d2, d3, d4, d5, d6] => { results := [.lit (.bool true)], args := [d1, d2, d3, d4, d5, d6] }
  | _ => none }
def stateSplitsRow : OpenClaim := { program := "ytjegeghigfmkoaa", sum := "f8262c31311bbd874a59383b5b1067cdbe4f2603340ed3281268e360a360d6f8", func := "leat/leatlaw12.StateSplits", spec := "stateSplits", unfollowed := true, recurses := true, plainKeys := false, apart := false }
def StateSplitsSaid : Prop := stateSplitsRow.holds Try.pinned (OpenSpec.ofChange stateSplitsSpec)

/-- ITS FALSE NEIGHBOUR: 'it returns false'. Refute it at one input. -/
def stateSplitsWrong : ChangeSpec := { name := "stateSplits", fn := fun _ => fun
  | [d1, d2, d3, d4, d5, d6] => { results := [.lit (.bool false)], args := [d1, d2, d3, d4, d5, d6] }
  | _ => none }
def StateSplitsWrongFalsely : Prop := stateSplitsRow.holds Try.pinned (OpenSpec.ofChange stateSplitsWrong)

/- THE SECOND FORM. 'bulk': how many values and letters a reading holds, each counted each time it is reached (what is shared counts as often as it is met; a slice's spare places count too). A statement '..UptoSaid' is the law's where the arguments, and the package variables that the reading takes, are together of bulk at most 1048576: NARROWER than '..Said'. Prove '..Said' where nothing that the law and all that it calls make is longer than what came in: it says more and counts as full. Else prove '..UptoSaid'. A law counts once. -/
mutual
def uptoBulk {H : Type} : DataW H → Nat
  | .lit (.string bytes) => bytes.length + 1
  | .lit _ => 1
  | .nil => 1
  | .ptr d => uptoBulk d + 1
  | .slice elems spare => uptoBulkAll elems + uptoBulkAll spare + 1
  | .agg parts => uptoBulkAll parts + 1
  | .iface _ d => uptoBulk d + 1
  | .map entries => uptoBulkEntries entries + 1
  | .held _ => 1
def uptoBulkAll {H : Type} : List (DataW H) → Nat
  | [] => 0
  | d :: r => uptoBulk d + uptoBulkAll r
def uptoBulkEntries {H : Type} : List (Lit × DataW H) → Nat
  | [] => 0
  | x :: r => uptoBulkEntry x + uptoBulkEntries r
def uptoBulkEntry {H : Type} : Lit × DataW H → Nat
  | (.string bytes, d) => bytes.length + uptoBulk d + 1
  | (_, d) => uptoBulk d + 1
 end
def uptoSmall : (H : Type) → List (DataW H) → Bool := fun _ ds => decide (uptoBulkAll ds ≤ 1048576)
def OpenSpec.upto (s : _root_.Go.ChangeSpec) : _root_.Go.OpenSpec := { _root_.Go.OpenSpec.ofChange s with cond := some uptoSmall }

/-- 'leatlaw12.StatePlays', WHERE WHAT IT READS IS OF BULK AT MOST 1048576: true; the input reads as it did. -/
def statePlaysUptoRow : OpenClaim := { program := "ytjegeghigfmkoaa", sum := "f8262c31311bbd874a59383b5b1067cdbe4f2603340ed3281268e360a360d6f8", func := "leat/leatlaw12.StatePlays", spec := "statePlays", unfollowed := true, recurses := true, plainKeys := false, apart := false, narrowed := true }
def StatePlaysUptoSaid : Prop := statePlaysUptoRow.holds Try.pinned (OpenSpec.upto statePlaysSpec)

/-- 'leatlaw12.StateOrder', WHERE WHAT IT READS IS OF BULK AT MOST 1048576: true; the input reads as it did. -/
def stateOrderUptoRow : OpenClaim := { program := "ytjegeghigfmkoaa", sum := "f8262c31311bbd874a59383b5b1067cdbe4f2603340ed3281268e360a360d6f8", func := "leat/leatlaw12.StateOrder", spec := "stateOrder", unfollowed := true, recurses := true, plainKeys := false, apart := false, narrowed := true }
def StateOrderUptoSaid : Prop := stateOrderUptoRow.holds Try.pinned (OpenSpec.upto stateOrderSpec)

/-- 'leatlaw12.StateOpens', WHERE WHAT IT READS IS OF BULK AT MOST 1048576: true; the input reads as it did. -/
def stateOpensUptoRow : OpenClaim := { program := "ytjegeghigfmkoaa", sum := "f8262c31311bbd874a59383b5b1067cdbe4f2603340ed3281268e360a360d6f8", func := "leat/leatlaw12.StateOpens", spec := "stateOpens", unfollowed := true, recurses := true, plainKeys := false, apart := false, narrowed := true }
def StateOpensUptoSaid : Prop := stateOpensUptoRow.holds Try.pinned (OpenSpec.upto stateOpensSpec)

/-- 'leatlaw12.StateTimers', WHERE WHAT IT READS IS OF BULK AT MOST 1048576: true; the input reads as it did. -/
def stateTimersUptoRow : OpenClaim := { program := "ytjegeghigfmkoaa", sum := "f8262c31311bbd874a59383b5b1067cdbe4f2603340ed3281268e360a360d6f8", func := "leat/leatlaw12.StateTimers", spec := "stateTimers", unfollowed := true, recurses := true, plainKeys := false, apart := false, narrowed := true }
def StateTimersUptoSaid : Prop := stateTimersUptoRow.holds Try.pinned (OpenSpec.upto stateTimersSpec)

/-- 'leatlaw12.StateGroups', WHERE WHAT IT READS IS OF BULK AT MOST 1048576: true; the input reads as it did. -/
def stateGroupsUptoRow : OpenClaim := { program := "ytjegeghigfmkoaa", sum := "f8262c31311bbd874a59383b5b1067cdbe4f2603340ed3281268e360a360d6f8", func := "leat/leatlaw12.StateGroups", spec := "stateGroups", unfollowed := true, recurses := true, plainKeys := false, apart := false, narrowed := true }
def StateGroupsUptoSaid : Prop := stateGroupsUptoRow.holds Try.pinned (OpenSpec.upto stateGroupsSpec)

/-- 'leatlaw12.StateSplits', WHERE WHAT IT READS IS OF BULK AT MOST 1048576: true; the input reads as it did. -/
def stateSplitsUptoRow : OpenClaim := { program := "ytjegeghigfmkoaa", sum := "f8262c31311bbd874a59383b5b1067cdbe4f2603340ed3281268e360a360d6f8", func := "leat/leatlaw12.StateSplits", spec := "stateSplits", unfollowed := true, recurses := true, plainKeys := false, apart := false, narrowed := true }
def StateSplitsUptoSaid : Prop := stateSplitsUptoRow.holds Try.pinned (OpenSpec.upto stateSplitsSpec)

end Rows
end Go.Proofs.Ytjegeghigfmkoaa
