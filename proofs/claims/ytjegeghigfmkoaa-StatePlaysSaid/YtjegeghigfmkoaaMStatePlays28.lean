/- For every input that the row can read, the Go function leat/leatlaw12.StatePlays returns true, and each argument reads afterwards as it read before. Conditions: none beyond the row's own. -/
import Derived.Test.YtjegeghigfmkoaaRows
import Derived.Test.YtjegeghigfmkoaaMStatePlays27
import Derived.WalkKit
import Derived.ProofKit
import Derived.OpenShut
import Derived.ShutString
import Derived.ChangeOld
import Derived.Below
import Derived.SizedLaws
import Derived.Carry
namespace Go.Proofs.Ytjegeghigfmkoaa.statePlays
open Go.ChangeShapes Go.WideShapes Go.ChangeAt Go.RowKit Go.Proofs.YtjegeghigfmkoaaW.PrintWords
open Go.ChangeMaps (open_string shut_string)
open Go.Proofs.Ytjegeghigfmkoaa.Op Go.Proofs.Ytjegeghigfmkoaa.X
set_option linter.unusedVariables false
theorem own:ownKnob Try.prog.godebug=none:=by kernel_rfl
theorem laidOut:laidOutB Try.prog=true:=by kernel_rfl
set_option maxRecDepth 100000 in
theorem lifted (os:Os) (started:os.Started) (H:Type) (enc:TypeId×Value→H):
  ReturnsInHanded {} Try.checked os 3 .any (Rows.statePlaysSpec.pre6 enc Try.prog Try.f3 Rows.statePlaysRow.domain false) (Rows.statePlaysSpec.post enc Try.prog Try.f3 false true false false):=by
 refine returnsInHanded_of_change_sized (C:=Try.checked) own started (by kernel_rfl) Try.func3
  (ChangeSpec.witness6 (enc:=enc) (C:=Try.checked) false ⟨#[],#[.agg #[.int .i64 0,.int .i64 0,.int .i64 0],.int .i64 0,.slice none 0 0],[]⟩ 8 (by kernel_rfl) (by kernel_rfl) (by kernel_rfl) (by kernel_rfl)) ?_
 intro W base args ds gs before hval0 hW hcnd hsz0 _;have hsz:(DataW.weightsEach Try.prog (Try.f3.params.toList++Rows.statePlaysSpec.plain.varTypes Try.prog) (ds++gs)).all (·≤reachBytes)=true:=hsz0;have hval: ∀(j:Nat) t v,Try.f3.params[j]? =some t→args[j]? =some v→Value.okWide Try.prog W .any base t v:=hval0;have hW' :=hW;obtain⟨p,q,hA0,hV,rfl,hfz,hnd⟩:=hW;have hA:DataW.TrodAll enc Try.prog W 0 (fun _=>true) true Try.f3.params.toList args.toList ds p:=hA0;rw[Try.params3] at hA hval hsz;obtain⟨v0,vs0,d0,ds0,p0,q0,hargs,rfl,rfl,h0,r0⟩:=trodAll_cons hA;obtain⟨v1,vs1,d1,ds1,p1,q1,rfl,rfl,rfl,h1,r1⟩:=trodAll_cons r0;obtain⟨v2,vs2,d2,ds2,p2,q2,rfl,rfl,rfl,h2,r2⟩:=trodAll_cons r1;obtain⟨rfl,rfl,rfl⟩:=trodAll_nil r2;obtain rfl:args= #[v0,v1,v2]:=by cases args;simp_all
 obtain⟨rfl,rfl⟩:=trodVars_none hV;have k0:=h0;have lt0: ∀x ∈ p0,x.block<W.heap.size:=by obtain⟨m,hm⟩:=k0;exact DataW.trod_lt m _ _ _ hm
 obtain⟨x0,K0,G0⟩:=open_arg (d:=(Kd.pair (Kd.int .i64) (Kd.pair (Kd.int .i64) (Kd.int .i64)))) (j:=0) (t:=23) (fun n=>(opens_st Try.underlying23 (by first|rfl|kernel_rfl) (fun n=>(opens_more (by first|rfl|kernel_rfl) (by first|rfl|kernel_rfl) (opens_int .i64 Try.underlying3) (opens_more (by first|rfl|kernel_rfl) (by first|rfl|kernel_rfl) (opens_int .i64 Try.underlying2) (opens_one (by first|rfl|kernel_rfl) (by first|rfl|kernel_rfl) (opens_int .i64 Try.underlying2))))) n)) hsz rfl rfl h0;obtain⟨a0_0,a0_1,a0_2⟩:=x0;generalize hcs0:v0.cells.toList=cs0 at K0;obtain⟨_,_,rfl,K_a0_0,⟨_,_,rfl,K_a0_1,K_a0_2⟩⟩:=K0;obtain⟨G_a0_0,G_a0_1,G_a0_2⟩:=G0;obtain rfl:=K_a0_0;obtain rfl:=K_a0_1;obtain rfl:=K_a0_2;obtain rfl:=arg_struct Try.underlying23 (hval 0 23 v0 rfl rfl) hcs0;obtain⟨a1,rfl,rfl,rfl,w1⟩:=open_int Try.underlying3 (hval 1 3 v1 rfl rfl) h1;have k2:=h2;have lt2: ∀x ∈ p2,x.block<W.heap.size:=by obtain⟨m,hm⟩:=k2;exact DataW.trod_lt m _ _ _ hm
 obtain⟨l2,K2,G2⟩:=open_arg (j:=2) (t:=24) (fun n=>(opens_sl (B:=40) Try.underlying24 (by first|rfl|kernel_rfl) (by kernel_rfl) (fun n=>(opens41 n)) n)) hsz rfl rfl h2;obtain⟨A2,c2,rfl,hc2,hr2⟩:=arg_slice Try.underlying24 (hval 2 24 v2 rfl rfl) K2;clear hA0 hval0 hsz0 hsz;have hk:=Pure.StatePlays _ _ _ _ _ G_a0_0 G_a0_1 G_a0_2 w1 G2;refine(X.leatlaw12_StatePlays.calls (w:=W) (r:=true) (hr2:=hr2) (hc2:=hc2) (h:=hk)).mono fun e W' ⟨he,bel0⟩=> ?_
 have bel:Below W.heap.size W W' :=by first|exact bel0|(obtain⟨nd,rfl⟩:=bel0;exact pw_below_drewN (Below.refl _ _) _)
 subst he;exact⟨_,rfl,_,_,_,[],_,[],hW',trodAll_mk1 (shut_bool Try.underlying4 _),(trodAll_cons_mk (Below.trod laidOut (by kernel_rfl) (of_decide_eq_true (by kernel_rfl)) k0 bel lt0) (trodAll_cons_mk (shut_int Try.underlying3 w1) (trodAll_cons_mk (Below.trod laidOut (by kernel_rfl) (of_decide_eq_true (by kernel_rfl)) k2 bel lt2) trodAll_mk0))),rfl,bel.frame _,fun h=>by cases h⟩
theorem over:Rows.statePlaysRow.holds Try.pinned (OpenSpec.ofChange Rows.statePlaysSpec):=
 OpenClaim.holds_of_wide 3 Try.f3 rfl rfl rfl rfl rfl rfl rfl ⟨rfl,rfl,rfl,rfl,rfl⟩ rfl rfl rfl rfl rfl (by kernel_rfl) Try.func3 (by kernel_rfl)
  (of_decide_eq_true (by kernel_rfl)) (by unfold Func.isWrapper;first|(rw[if_pos (by decide+kernel)];kernel_rfl)|(rw[if_neg (by decide+kernel)];exact⟨rfl,rfl⟩))
  (fun os started H enc _=>lifted os started H enc)
theorem proved:Rows.StatePlaysSaid:=over
#print axioms proved
end Go.Proofs.Ytjegeghigfmkoaa.statePlays
namespace Go.Proofs.Ytjegeghigfmkoaa
theorem statePlays_holds:Rows.StatePlaysSaid:=statePlays.proved
end Go.Proofs.Ytjegeghigfmkoaa
