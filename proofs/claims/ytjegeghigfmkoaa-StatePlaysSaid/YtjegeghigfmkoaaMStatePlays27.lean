/- What is asked of the law StatePlays, in plain Lean. No conditions. -/
import Derived.Test.YtjegeghigfmkoaaMStatePlays26
import Derived.Test.YtjegeghigfmkoaaMStatePlays25
namespace Go.Proofs.Ytjegeghigfmkoaa.Op
open Go.RowKit Go.Proofs.YtjegeghigfmkoaaW.PrintWords Go.Proofs.Ytjegeghigfmkoaa.X
def StatePlaysPure:Prop:= ∀(a0_0:Int) (a0_1:Int) (a0_2:Int) (a1:Int) (l2:List (S41)),((Lit.int .i64 a0_0).wf=true)→((Lit.int .i64 a0_1).wf=true)→((Lit.int .i64 a0_2).wf=true)→((Lit.int .i64 a1).wf=true)→(l2.length*40≤140737488351232∧l2.length≤9223372036854775807∧ ∀x ∈ l2,Good41 x)→leatlaw12_StatePlays.f a0_0 a0_1 a0_2 a1 l2=some true
end Go.Proofs.Ytjegeghigfmkoaa.Op
namespace Go.Proofs.Ytjegeghigfmkoaa.Pure
open Go.RowKit Go.Proofs.Ytjegeghigfmkoaa.X Go.Proofs.Ytjegeghigfmkoaa.Op
theorem good_64p {l:List S41} (h: ∀x ∈ l,Good41 x): ∀x ∈ l,(T.I64 x.f1.f0∧T.I64 x.f1.f2)∧T.I64 x.f2:=fun x hx=>by
 obtain⟨_,⟨h0,_,h2⟩,h3⟩:=h x hx;exact⟨⟨T.i64_wf.1 h0,T.i64_wf.1 h2⟩,T.i64_wf.1 h3⟩
theorem StatePlays:Op.StatePlaysPure:=by
 intro a0 a1 a2 a l2 _ _ _ _ h2;unfold leatlaw12_StatePlays.f;rw[if_pos (good_64p h2.2.2)]
end Go.Proofs.Ytjegeghigfmkoaa.Pure
