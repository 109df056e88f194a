/- The kinds of this seat's structs, opened out of a row's reading. No conditions. -/
import Derived.Test.YtjegeghigfmkoaaMStatePlays11
import Derived.Test.YtjegeghigfmkoaaMStatePlays3
namespace Go.Proofs.Ytjegeghigfmkoaa.Op
open Go.RowKit Go.Proofs.YtjegeghigfmkoaaW.PrintWords Go.Proofs.Ytjegeghigfmkoaa.X
set_option linter.unusedVariables false
set_option maxRecDepth 100000
def Good39 (x:S39):Prop:=((Lit.int .i64 x.f0).wf=true)∧((Lit.int .i64 x.f1).wf=true)∧((Lit.int .i64 x.f2).wf=true)
theorem opens39 (n:Nat):Opens n k39 39 Good39:=opens_iso (fun x:S39=>(x.f0,x.f1,x.f2)) (fun p=>⟨p.1,p.2.1,p.2.2⟩) (fun _=>rfl) (opens_st Try.underlying39 (by first|rfl|kernel_rfl) (fun n=>(opens_more (by first|rfl|kernel_rfl) (by first|rfl|kernel_rfl) (opens_int .i64 Try.underlying2) (opens_more (by first|rfl|kernel_rfl) (by first|rfl|kernel_rfl) (opens_int .i64 Try.underlying2) (opens_one (by first|rfl|kernel_rfl) (by first|rfl|kernel_rfl) (opens_int .i64 Try.underlying2))))) n)
def Good41 (x:S41):Prop:=((Lit.int .i64 x.f0).wf=true)∧(Good39 x.f1)∧((Lit.int .i64 x.f2).wf=true)
theorem opens41 (n:Nat):Opens n k41 41 Good41:=opens_iso (fun x:S41=>(x.f0,x.f1,x.f2)) (fun p=>⟨p.1,p.2.1,p.2.2⟩) (fun _=>rfl) (opens_st Try.underlying41 (by first|rfl|kernel_rfl) (fun n=>(opens_more (by first|rfl|kernel_rfl) (by first|rfl|kernel_rfl) (opens_int .i64 Try.underlying3) (opens_more (by first|rfl|kernel_rfl) (by first|rfl|kernel_rfl) (opens39 n) (opens_one (by first|rfl|kernel_rfl) (by first|rfl|kernel_rfl) (opens_int .i64 Try.underlying2))))) n)
end Go.Proofs.Ytjegeghigfmkoaa.Op
