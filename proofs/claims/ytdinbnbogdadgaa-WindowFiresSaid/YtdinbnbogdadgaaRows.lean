/-
  No cell of these rows narrows 'for every input' (looked for: loops, veiled, ifaces, maps, wideKeys, modest, calm, conditions, laid).
  DERIVED. THE GIVEN ROWS OF THIS SEAT. 9 by the template 'for every input the law returns true; each argument reads behind the call as it read before'; 0 by the template 'total and deterministic' (their statements: YtdinbnbogdadgaaTotals.lean).
  GIVEN WITH THE SEED: the statements are not yours to turn. If you find one false, say at which input.
  Laid BY PROGRAM, IN A SANDBOX (cutbox-rows.mjs): the forced cells as the released guide's own fill.sh prints them over the translation 6d8971dd0f0cfdf7… (all of the seat's roots in one cut). By AI agents, Wed Nov 11 2026. No macro, syntax, notation, axiom, sorry.
-/
import Derived.Test.YtdinbnbogdadgaaChecked
import GoSem.Claim
import GoSem.ClaimJoined
import GoSem.ClaimMapViews
import Derived.JoinedTies
import Derived.KernelRfl
namespace Go.Proofs.Ytdinbnbogdadgaa
/- THE CELL 'sum', in the pinned program and in every row, IS THE sha256 OF THE DUMP (.gsa) THAT YtdinbnbogdadgaaProg.lean LOADS. Nothing in Lean hashes anything: it is a label: what it is worth is what the hold of that sum in a sandbox is worth. -/
noncomputable def Try.pinned : Pinned := { name := "ytdinbnbogdadgaa", sum := "6d8971dd0f0cfdf75c74436fd4bdb1d103720bf16223a06841f909e90770559f", checked := Try.checked }
namespace Rows
def none {H : Type} : Left H := { results := [], args := [] }

/-- 'leatlaw11.WindowSpans': WHATEVER THE INPUT: true; the input reads as it did. -/
def windowSpansSpec : ChangeSpec := { name := "windowSpans", fn := fun _ => fun
  | [d1, d2] => { results := [.lit (.bool true)], args := [d1, d2] }
  | _ => none }
def windowSpansRow : OpenClaim := { program := "ytdinbnbogdadgaa", sum := "6d8971dd0f0cfdf75c74436fd4bdb1d103720bf16223a06841f909e90770559f", func := "leat/leatlaw11.WindowSpans", spec := "windowSpans", unfollowed := true, recurses := true, apart := false }
def WindowSpansSaid : Prop := windowSpansRow.holds Try.pinned (OpenSpec.ofChange windowSpansSpec)

/-- ITS FALSE NEIGHBOUR: 'it returns false'. Refute it at one input. -/
def windowSpansWrong : ChangeSpec := { name := "windowSpans", fn := fun _ => fun
  | [d1, d2] => { results := [.lit (.bool false)], args := [d1, d2] }
  | _ => none }
def WindowSpansWrongFalsely : Prop := windowSpansRow.holds Try.pinned (OpenSpec.ofChange windowSpansWrong)

/-- 'leatlaw11.WindowPlays': WHATEVER THE INPUT: true; the input reads as it did. -/
def windowPlaysSpec : ChangeSpec := { name := "windowPlays", fn := fun _ => fun
  | [d1, d2, d3, d4] => { results := [.lit (.bool true)], args := [d1, d2, d3, d4] }
  | _ => none }
def windowPlaysRow : OpenClaim := { program := "ytdinbnbogdadgaa", sum := "6d8971dd0f0cfdf75c74436fd4bdb1d103720bf16223a06841f909e90770559f", func := "leat/leatlaw11.WindowPlays", spec := "windowPlays", unfollowed := true, recurses := true, apart := false }
def WindowPlaysSaid : Prop := windowPlaysRow.holds Try.pinned (OpenSpec.ofChange windowPlaysSpec)

/-- ITS FALSE NEIGHBOUR: 'it returns false'. Refute it at one input. -/
def windowPlaysWrong : ChangeSpec := { name := "windowPlays", fn := fun _ => fun
  | [d1, d2, d3, d4] => { results := [.lit (.bool false)], args := [d1, d2, d3, d4] }
  | _ => none }
def WindowPlaysWrongFalsely : Prop := windowPlaysRow.holds Try.pinned (OpenSpec.ofChange windowPlaysWrong)

/-- 'leatlaw11.WindowOrder': WHATEVER THE INPUT: true; the input reads as it did. -/
def windowOrderSpec : ChangeSpec := { name := "windowOrder", fn := fun _ => fun
  | [d1, d2, d3, d4] => { results := [.lit (.bool true)], args := [d1, d2, d3, d4] }
  | _ => none }
def windowOrderRow : OpenClaim := { program := "ytdinbnbogdadgaa", sum := "6d8971dd0f0cfdf75c74436fd4bdb1d103720bf16223a06841f909e90770559f", func := "leat/leatlaw11.WindowOrder", spec := "windowOrder", unfollowed := true, recurses := true, apart := false }
def WindowOrderSaid : Prop := windowOrderRow.holds Try.pinned (OpenSpec.ofChange windowOrderSpec)

/-- ITS FALSE NEIGHBOUR: 'it returns false'. Refute it at one input. -/
def windowOrderWrong : ChangeSpec := { name := "windowOrder", fn := fun _ => fun
  | [d1, d2, d3, d4] => { results := [.lit (.bool false)], args := [d1, d2, d3, d4] }
  | _ => none }
def WindowOrderWrongFalsely : Prop := windowOrderRow.holds Try.pinned (OpenSpec.ofChange windowOrderWrong)

/-- 'leatlaw11.WindowCounts': WHATEVER THE INPUT: true; the input reads as it did. -/
def windowCountsSpec : ChangeSpec := { name := "windowCounts", fn := fun _ => fun
  | [d1, d2] => { results := [.lit (.bool true)], args := [d1, d2] }
  | _ => none }
def windowCountsRow : OpenClaim := { program := "ytdinbnbogdadgaa", sum := "6d8971dd0f0cfdf75c74436fd4bdb1d103720bf16223a06841f909e90770559f", func := "leat/leatlaw11.WindowCounts", spec := "windowCounts", unfollowed := true, recurses := true, apart := false }
def WindowCountsSaid : Prop := windowCountsRow.holds Try.pinned (OpenSpec.ofChange windowCountsSpec)

/-- ITS FALSE NEIGHBOUR: 'it returns false'. Refute it at one input. -/
def windowCountsWrong : ChangeSpec := { name := "windowCounts", fn := fun _ => fun
  | [d1, d2] => { results := [.lit (.bool false)], args := [d1, d2] }
  | _ => none }
def WindowCountsWrongFalsely : Prop := windowCountsRow.holds Try.pinned (OpenSpec.ofChange windowCountsWrong)

/-- 'leatlaw11.WindowFires': WHATEVER THE INPUT: true; the input reads as it did. -/
def windowFiresSpec : ChangeSpec := { name := "windowFires", fn := fun _ => fun
  | [d1, d2] => { results := [.lit (.bool true)], args := [d1, d2] }
  | _ => none }
def windowFiresRow : OpenClaim := { program := "ytdinbnbogdadgaa", sum := "6d8971dd0f0cfdf75c74436fd4bdb1d103720bf16223a06841f909e90770559f", func := "leat/leatlaw11.WindowFires", spec := "windowFires", unfollowed := true, recurses := true, apart := false }
def WindowFiresSaid : Prop := windowFiresRow.holds Try.pinned (OpenSpec.ofChange windowFiresSpec)

/-- ITS FALSE NEIGHBOUR: 'it returns false'. Refute it at one input. -/
def windowFiresWrong : ChangeSpec := { name := "windowFires", fn := fun _ => fun
  | [d1, d2] => { results := [.lit (.bool false)], args := [d1, d2] }
  | _ => none }
def WindowFiresWrongFalsely : Prop := windowFiresRow.holds Try.pinned (OpenSpec.ofChange windowFiresWrong)

/-- 'leatlaw11.WindowShift': WHATEVER THE INPUT: true; the input reads as it did. -/
def windowShiftSpec : ChangeSpec := { name := "windowShift", fn := fun _ => fun
  | [d1, d2, d3, d4] => { results := [.lit (.bool true)], args := [d1, d2, d3, d4] }
  | _ => none }
def windowShiftRow : OpenClaim := { program := "ytdinbnbogdadgaa", sum := "6d8971dd0f0cfdf75c74436fd4bdb1d103720bf16223a06841f909e90770559f", func := "leat/leatlaw11.WindowShift", spec := "windowShift", unfollowed := true, recurses := true, apart := false }
def WindowShiftSaid : Prop := windowShiftRow.holds Try.pinned (OpenSpec.ofChange windowShiftSpec)

/-- ITS FALSE NEIGHBOUR: 'it returns false'. Refute it at one input. -/
def windowShiftWrong : ChangeSpec := { name := "windowShift", fn := fun _ => fun
  | [d1, d2, d3, d4] => { results := [.lit (.bool false)], args := [d1, d2, d3, d4] }
  | _ => none }
def WindowShiftWrongFalsely : Prop := windowShiftRow.holds Try.pinned (OpenSpec.ofChange windowShiftWrong)

/-- 'leatlaw11.WindowKeys': WHATEVER THE INPUT: true; the input reads as it did. -/
def windowKeysSpec : ChangeSpec := { name := "windowKeys", fn := fun _ => fun
  | [d1, d2, d3] => { results := [.lit (.bool true)], args := [d1, d2, d3] }
  | _ => none }
def windowKeysRow : OpenClaim := { program := "ytdinbnbogdadgaa", sum := "6d8971dd0f0cfdf75c74436fd4bdb1d103720bf16223a06841f909e90770559f", func := "leat/leatlaw11.WindowKeys", spec := "windowKeys", unfollowed := true, recurses := true, apart := false }
def WindowKeysSaid : Prop := windowKeysRow.holds Try.pinned (OpenSpec.ofChange windowKeysSpec)

/-- ITS FALSE NEIGHBOUR: 'it returns false'. Refute it at one input. -/
def windowKeysWrong : ChangeSpec := { name := "windowKeys", fn := fun _ => fun
  | [d1, d2, d3] => { results := [.lit (.bool false)], args := [d1, d2, d3] }
  | _ => none }
def WindowKeysWrongFalsely : Prop := windowKeysRow.holds Try.pinned (OpenSpec.ofChange windowKeysWrong)

/-- 'leatlaw11.WindowJoin': WHATEVER THE INPUT: true; the input reads as it did. -/
def windowJoinSpec : ChangeSpec := { name := "windowJoin", fn := fun _ => fun
  | [d1, d2] => { results := [.lit (.bool true)], args := [d1, d2] }
  | _ => none }
def windowJoinRow : OpenClaim := { program := "ytdinbnbogdadgaa", sum := "6d8971dd0f0cfdf75c74436fd4bdb1d103720bf16223a06841f909e90770559f", func := "leat/leatlaw11.WindowJoin", spec := "windowJoin", unfollowed := true, recurses := true, apart := false }
def WindowJoinSaid : Prop := windowJoinRow.holds Try.pinned (OpenSpec.ofChange windowJoinSpec)

/-- ITS FALSE NEIGHBOUR: 'it returns false'. Refute it at one input. -/
def windowJoinWrong : ChangeSpec := { name := "windowJoin", fn := fun _ => fun
  | [d1, d2] => { results := [.lit (.bool false)], args := [d1, d2] }
  | _ => none }
def WindowJoinWrongFalsely : Prop := windowJoinRow.holds Try.pinned (OpenSpec.ofChange windowJoinWrong)

/-- 'leatlaw11.WindowHalves': WHATEVER THE INPUT: true; the input reads as it did. -/
def windowHalvesSpec : ChangeSpec := { name := "windowHalves", fn := fun _ => fun
  | [d1, d2, d3, d4] => { results := [.lit (.bool true)], args := [d1, d2, d3, d4] }
  | _ => none }
def windowHalvesRow : OpenClaim := { program := "ytdinbnbogdadgaa", sum := "6d8971dd0f0cfdf75c74436fd4bdb1d103720bf16223a06841f909e90770559f", func := "leat/leatlaw11.WindowHalves", spec := "windowHalves", unfollowed := true, recurses := true, apart := false }
def WindowHalvesSaid : Prop := windowHalvesRow.holds Try.pinned (OpenSpec.ofChange windowHalvesSpec)

/-- ITS FALSE NEIGHBOUR: 'it returns false'. Refute it at one input. -/
def windowHalvesWrong : ChangeSpec := { name := "windowHalves", fn := fun _ => fun
  | [d1, d2, d3, d4] => { results := [.lit (.bool false)], args := [d1, d2, d3, d4] }
  | _ => none }
def WindowHalvesWrongFalsely : Prop := windowHalvesRow.holds Try.pinned (OpenSpec.ofChange windowHalvesWrong)

/- THE SECOND FORM. 'bulk': how many values and letters a reading holds, each counted each time it is reached (what is shared counts as often as it is met; a slice's spare places count too). A statement '..UptoSaid' is the law's where the arguments, and the package variables that the reading takes, are together of bulk at most 1048576: NARROWER than '..Said'. Prove '..Said' where nothing that the law and all that it calls make is longer than what came in: it says more and counts as full. Else prove '..UptoSaid'. A law counts once. -/
mutual
def uptoBulk {H : Type} : DataW H → Nat
  | .lit (.string bytes) => bytes.length + 1
  | .lit _ => 1
  | .nil => 1
  | .ptr d => uptoBulk d + 1
  | .slice elems spare => uptoBulkAll elems + uptoBulkAll spare + 1
  | .agg parts => uptoBulkAll parts + 1
  | .iface _ d => uptoBulk d + 1
  | .map entries => uptoBulkEntries entries + 1
  | .held _ => 1
def uptoBulkAll {H : Type} : List (DataW H) → Nat
  | [] => 0
  | d :: r => uptoBulk d + uptoBulkAll r
def uptoBulkEntries {H : Type} : List (Lit × DataW H) → Nat
  | [] => 0
  | x :: r => uptoBulkEntry x + uptoBulkEntries r
def uptoBulkEntry {H : Type} : Lit × DataW H → Nat
  | (.string bytes, d) => bytes.length + uptoBulk d + 1
  | (_, d) => uptoBulk d + 1
 end
def uptoSmall : (H : Type) → List (DataW H) → Bool := fun _ ds => decide (uptoBulkAll ds ≤ 1048576)
def OpenSpec.upto (s : _root_.Go.ChangeSpec) : _root_.Go.OpenSpec := { _root_.Go.OpenSpec.ofChange s with cond := some uptoSmall }

/-- 'leatlaw11.WindowSpans', WHERE WHAT IT READS IS OF BULK AT MOST 1048576: true; the input reads as it did. -/
def windowSpansUptoRow : OpenClaim := { program := "ytdinbnbogdadgaa", sum := "6d8971dd0f0cfdf75c74436fd4bdb1d103720bf16223a06841f909e90770559f", func := "leat/leatlaw11.WindowSpans", spec := "windowSpans", unfollowed := true, recurses := true, apart := false, narrowed := true }
def WindowSpansUptoSaid : Prop := windowSpansUptoRow.holds Try.pinned (OpenSpec.upto windowSpansSpec)

/-- 'leatlaw11.WindowPlays', WHERE WHAT IT READS IS OF BULK AT MOST 1048576: true; the input reads as it did. -/
def windowPlaysUptoRow : OpenClaim := { program := "ytdinbnbogdadgaa", sum := "6d8971dd0f0cfdf75c74436fd4bdb1d103720bf16223a06841f909e90770559f", func := "leat/leatlaw11.WindowPlays", spec := "windowPlays", unfollowed := true, recurses := true, apart := false, narrowed := true }
def WindowPlaysUptoSaid : Prop := windowPlaysUptoRow.holds Try.pinned (OpenSpec.upto windowPlaysSpec)

/-- 'leatlaw11.WindowOrder', WHERE WHAT IT READS IS OF BULK AT MOST 1048576: true; the input reads as it did. -/
def windowOrderUptoRow : OpenClaim := { program := "ytdinbnbogdadgaa", sum := "6d8971dd0f0cfdf75c74436fd4bdb1d103720bf16223a06841f909e90770559f", func := "leat/leatlaw11.WindowOrder", spec := "windowOrder", unfollowed := true, recurses := true, apart := false, narrowed := true }
def WindowOrderUptoSaid : Prop := windowOrderUptoRow.holds Try.pinned (OpenSpec.upto windowOrderSpec)

/-- 'leatlaw11.WindowCounts', WHERE WHAT IT READS IS OF BULK AT MOST 1048576: true; the input reads as it did. -/
def windowCountsUptoRow : OpenClaim := { program := "ytdinbnbogdadgaa", sum := "6d8971dd0f0cfdf75c74436fd4bdb1d103720bf16223a06841f909e90770559f", func := "leat/leatlaw11.WindowCounts", spec := "windowCounts", unfollowed := true, recurses := true, apart := false, narrowed := true }
def WindowCountsUptoSaid : Prop := windowCountsUptoRow.holds Try.pinned (OpenSpec.upto windowCountsSpec)

/-- 'leatlaw11.WindowFires', WHERE WHAT IT READS IS OF BULK AT MOST 1048576: true; the input reads as it did. -/
def windowFiresUptoRow : OpenClaim := { program := "ytdinbnbogdadgaa", sum := "6d8971dd0f0cfdf75c74436fd4bdb1d103720bf16223a06841f909e90770559f", func := "leat/leatlaw11.WindowFires", spec := "windowFires", unfollowed := true, recurses := true, apart := false, narrowed := true }
def WindowFiresUptoSaid : Prop := windowFiresUptoRow.holds Try.pinned (OpenSpec.upto windowFiresSpec)

/-- 'leatlaw11.WindowShift', WHERE WHAT IT READS IS OF BULK AT MOST 1048576: true; the input reads as it did. -/
def windowShiftUptoRow : OpenClaim := { program := "ytdinbnbogdadgaa", sum := "6d8971dd0f0cfdf75c74436fd4bdb1d103720bf16223a06841f909e90770559f", func := "leat/leatlaw11.WindowShift", spec := "windowShift", unfollowed := true, recurses := true, apart := false, narrowed := true }
def WindowShiftUptoSaid : Prop := windowShiftUptoRow.holds Try.pinned (OpenSpec.upto windowShiftSpec)

/-- 'leatlaw11.WindowKeys', WHERE WHAT IT READS IS OF BULK AT MOST 1048576: true; the input reads as it did. -/
def windowKeysUptoRow : OpenClaim := { program := "ytdinbnbogdadgaa", sum := "6d8971dd0f0cfdf75c74436fd4bdb1d103720bf16223a06841f909e90770559f", func := "leat/leatlaw11.WindowKeys", spec := "windowKeys", unfollowed := true, recurses := true, apart := false, narrowed := true }
def WindowKeysUptoSaid : Prop := windowKeysUptoRow.holds Try.pinned (OpenSpec.upto windowKeysSpec)

/-- 'leatlaw11.WindowJoin', WHERE WHAT IT READS IS OF BULK AT MOST 1048576: true; the input reads as it did. -/
def windowJoinUptoRow : OpenClaim := { program := "ytdinbnbogdadgaa", sum := "6d8971dd0f0cfdf75c74436fd4bdb1d103720bf16223a06841f909e90770559f", func := "leat/leatlaw11.WindowJoin", spec := "windowJoin", unfollowed := true, recurses := true, apart := false, narrowed := true }
def WindowJoinUptoSaid : Prop := windowJoinUptoRow.holds Try.pinned (OpenSpec.upto windowJoinSpec)

/-- 'leatlaw11.WindowHalves', WHERE WHAT IT READS IS OF BULK AT MOST 1048576: true; the input reads as it did. -/
def windowHalvesUptoRow : OpenClaim := { program := "ytdinbnbogdadgaa", sum := "6d8971dd0f0cfdf75c74436fd4bdb1d103720bf16223a06841f909e90770559f", func := "leat/leatlaw11.WindowHalves", spec := "windowHalves", unfollowed := true, recurses := true, apart := false, narrowed := true }
def WindowHalvesUptoSaid : Prop := windowHalvesUptoRow.holds Try.pinned (OpenSpec.upto windowHalvesSpec)

end Rows
end Go.Proofs.Ytdinbnbogdadgaa
