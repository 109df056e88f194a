-- written by wip/myprint.py out of the translation
import Derived.Test.YtodpmiaedpmngaaProg
import Derived.Below
import Derived.Deep.Draws
import Derived.Deep.AppendLies
import Derived.Maps.AppendAt
import Derived.OwnWalk
import Derived.Laws.BytesArg
import Derived.Laws.MakeOwn
import Derived.Laws.OwnMore
import Derived.Deep.OwnRows
import Derived.Tactics
import Derived.Lib.ConvBytes
import Derived.Laws.Slices
import Derived.WalkKit
import Derived.KernelRfl
import Derived.RowKit3
import Derived.Deep.LoopGhost
import Derived.Deep.QuietTactic
import Derived.BigQuiet
import Derived.WideLaws
import Derived.Deep.DeepCutAuto
import Derived.Deep.CutBlock
import Derived.Deep.RegionHeld3
import Derived.Laws.Rows
import Derived.Lib.AppendStr
import Derived.ArgAppend
import Derived.Laws.IdiomCopy
import Derived.OrdersHeld
import Derived.Laws.BitsLemmas
import Derived.RowKit
import Derived.Test.YtodpmiaedpmngaaWWords
import Derived.Test.YtodpmiaedpmngaaWLast
import Derived.Test.YtodpmiaedpmngaaWTab
import Derived.Test.YtodpmiaedpmngaaWFour
import Derived.Test.YtodpmiaedpmngaaWQPut
import Derived.Test.YtodpmiaedpmngaaWApart
import Derived.Test.YtodpmiaedpmngaaWArr
import Derived.Test.YtodpmiaedpmngaaWZeros
import Derived.Test.YtodpmiaedpmngaaWFoot
import Derived.Test.YtodpmiaedpmngaaWKept
import Derived.Test.YtodpmiaedpmngaaWShare
import Derived.Test.YtodpmiaedpmngaaWN
import Derived.Test.YtodpmiaedpmngaaWFootNe
import Derived.Test.YtodpmiaedpmngaaWAt
import Derived.Test.YtodpmiaedpmngaaWEqStruct
import Derived.Test.YtodpmiaedpmngaaWRepsOne
import Derived.Test.YtodpmiaedpmngaaWInv
import Derived.Test.YtodpmiaedpmngaaWInvWords
import Derived.Test.YtodpmiaedpmngaaWGuard
import Derived.Test.YtodpmiaedpmngaaWNEv
import Derived.Test.YtodpmiaedpmngaaWMore
namespace Go.Proofs.Ytodpmiaedpmngaa.X
open Go.RowKit Go.Proofs.YtodpmiaedpmngaaW.PrintWords Go.Proofs.YtodpmiaedpmngaaW.PrintLast Go.Proofs.YtodpmiaedpmngaaW.PrintMore
attribute [local go_sem] max2_int min2_int max_two min_two max_three min_three max_four min_four   -- for this text's walks alone
set_option linter.unusedVariables false
set_option linter.unusedSimpArgs false



def errW : Option Int → Value
  | none => .nilIface
  | some c => .iface 0 (.int .i64 c)
theorem errW_none : errW none = .nilIface := rfl
theorem errW_some (c : Int) : errW (some c) = .iface 0 (.int .i64 c) := rfl

theorem info2 : (Try.prog.info? 2).map (fun i => (i.zero, i.size, i.bytes)) = some (some (.int .i64 0), 1, 8) := by kernel_rfl
-- the values' own types

end Go.Proofs.Ytodpmiaedpmngaa.X
