/- container/heap over the timers: what the methods of *timers do; sifting up and down; pushing, popping. Conditions: those typed. -/
import Derived.Test.YtjegeghigfmkoaaMStatePlays13
import Derived.Test.YtjegeghigfmkoaaMStatePlays7
import Derived.BigRegion
import Derived.Shelf.Abstract
import Derived.BigQuiet
import Derived.Deep.QuietTactic
import Derived.Deep.LoopGhost
namespace Go.Proofs.Ytjegeghigfmkoaa.T
open Go.RowKit Go.Sort Go.Proofs.Ytjegeghigfmkoaa.X Go.Proofs.YtjegeghigfmkoaaW.PrintWords Go.Proofs.YtjegeghigfmkoaaW.PrintLast Go.Proofs.YtjegeghigfmkoaaW.PrintMore
set_option linter.unusedVariables false
set_option linter.unusedSimpArgs false
set_option maxRecDepth 100000
set_option linter.unnecessarySimpa false
noncomputable def mrow (name:String):Option (List FieldStep×Option (FuncId×Bool)):=(Try.prog.info? 111).bind fun i=>(i.methods.find? fun x=>x.name==name).map fun m=>(m.path.toList,m.func)
theorem rowLen : mrow "Len" = some ([], some (117, false)) := by kernel_rfl
theorem rowLess : mrow "Less" = some ([], some (118, false)) := by kernel_rfl
theorem rowSwap : mrow "Swap" = some ([], some (119, false)) := by kernel_rfl
theorem rowPop : mrow "Pop" = some ([], some (120, true)) := by kernel_rfl
theorem rowPush : mrow "Push" = some ([], some (121, true)) := by kernel_rfl
theorem wrapNil {P:Program} (ts:Array TypeId) (ty:TypeId) (a:Addr) (s m:String) (w:World):(Builtin.ssaWrapNilChk_ ts ty #[.pointer (some a),strVal s,strVal m]).run P w= .ok (.pointer (some a)) w:=rfl
theorem mth_val {name:String} {f:FuncId} (hr:mrow name=some ([],some (f,false))) {a:Addr} {w:World} {A:Option Addr} {l c:Nat} (h:w.cell? a=some (.slice A l c)):
  Sem.run Try.prog (method 266 111 (.pointer (some a)) name) w= .ok (f,.slice A l c) w:=by
 obtain⟨n,hs⟩: ∃n,266=n+1:=⟨265,rfl⟩
 unfold mrow at hr;obtain⟨i,hi,hr⟩:=Option.bind_eq_some_iff.1 hr;obtain⟨m,hm,hr⟩:=Option.map_eq_some_iff.1 hr;injection hr with h1 h2
 have h1:m.path= #[]:=Array.toList_eq_nil_iff.1 h1;rw[hs];have hu:Try.prog.underlying 111=some (.pointer 85):=Try.underlying111;simp[method,Go.run_typeInfo w hi,hm,h1,h2,go_sem,follow,receiverAt,Place.get,hu,wrapNil,Try.isAgg85,h]
theorem mth_ptr {name:String} {f:FuncId} (hr:mrow name=some ([],some (f,true))) (a:Addr) (w:World): 
  Sem.run Try.prog (method 266 111 (.pointer (some a)) name) w= .ok (f,.pointer (some a)) w:=by
 obtain⟨n,hs⟩: ∃n,266=n+1:=⟨265,rfl⟩
 unfold mrow at hr;obtain⟨i,hi,hr⟩:=Option.bind_eq_some_iff.1 hr;obtain⟨m,hm,hr⟩:=Option.map_eq_some_iff.1 hr;injection hr with h1 h2
 have h1:m.path= #[]:=Array.toList_eq_nil_iff.1 h1;rw[hs];have hu:Try.prog.underlying 111=some (.pointer 85):=Try.underlying111;simp[method,Go.run_typeInfo w hi,hm,h1,h2,go_sem,follow,receiverAt,Place.get,hu,wrapNil]
theorem Len_calls (A:Option Addr) (n c:Nat) (w:World):Calls Try.prog 117 #[.slice A n c] w fun e w'=>e= .returned (.int .i64 n)∧w'=w:=by
 go_enter Try.func117,Try.ntmps117;go_wp2;go_ret;exact⟨rfl,rfl⟩
theorem Less_calls (g c:Nat) (d:Array Int) (w:World) (hH:Holds (Value.int .i64) w g 0 d) (i j:Nat) (hi:i<d.size) (hj:j<d.size):
  Calls Try.prog 118 #[.slice (some ⟨g,0,none⟩) d.size c,.int .i64 i,.int .i64 j] w fun e w'=>e= .returned (.bool (decide (d[i]! <d[j]!)))∧ ∃q,w'=w.drewN q:=by
 obtain⟨xi,hxi⟩: ∃x,d[i]! =x:=⟨_,rfl⟩
 obtain⟨xj,hxj⟩: ∃x,d[j]! =x:=⟨_,rfl⟩
 obtain⟨ci,fi⟩:=hH i hi;obtain⟨cj,fj⟩:=hH j hj;rw[hxi,Nat.zero_add] at ci;rw[hxj,Nat.zero_add] at cj;rw[hxi,hxj];generalize d.size=n at hi hj;clear hH hxi hxj fi fj;go_enter Try.func118,Try.ntmps118;go_wp2;go_region;go_wp2;go_ret;exact⟨rfl,1,rfl⟩
theorem Swap_calls (g c:Nat) (d:Array Int) (w:World) (hH:Holds (Value.int .i64) w g 0 d) (i j:Nat) (hi:i<d.size) (hj:j<d.size):
  Calls Try.prog 119 #[.slice (some ⟨g,0,none⟩) d.size c,.int .i64 i,.int .i64 j] w fun e w'=>e= .returned (.tuple #[])∧ ∃q,w'=(putRow (Value.int .i64) w g 0 (swp d i j)).drewN q:=by
 obtain⟨xi,hxi⟩: ∃x,d[i]! =x:=⟨_,rfl⟩
 obtain⟨xj,hxj⟩: ∃x,d[j]! =x:=⟨_,rfl⟩
 have hP:Aside0 (∀W,W=((w.setCell ⟨g,i,none⟩ (.int .i64 xj)).setCell ⟨g,j,none⟩ (.int .i64 xi)).drew→ ∃q,W=(putRow (Value.int .i64) w g 0 (swp d i j)).drewN q):=⟨fun W e=>by
  have:=swap_world (Value.int .i64) (w:=w) (wr:=w) (n:=0) (blk:=g) (off:=0) (dk:=d) hi hj (by
   have h0:=putRow_self (Value.int .i64) w g 0 d hH;exact h0.symm) (x:= .int .i64 xj) (y:= .int .i64 xi) (by rw[hxj]) (by rw[hxi])
  rw[Nat.zero_add,Nat.zero_add] at this;rw[e,this];exact⟨1,rfl⟩⟩
 obtain⟨ci,fi⟩:=hH i hi;obtain⟨cj,fj⟩:=hH j hj;rw[hxi,Nat.zero_add] at ci;rw[hxj,Nat.zero_add] at cj;rw[Nat.zero_add] at fi fj;obtain⟨u1,hu1⟩: ∃u,(w.setCell ⟨g,i,none⟩ (.int .i64 xj)).cell? ⟨g,j,none⟩=some u:=by
  by_cases e:i=j
  ·subst e;exact⟨_,World.cell?_setCell_same _ _ _ (by rw[ci])⟩
  ·exact⟨_,(World.cell?_setCell_other _ _ _ _ (by simpa using e)).trans cj⟩
 obtain⟨u2,hu2⟩: ∃u,(w.setCell ⟨g,j,none⟩ (.int .i64 xi)).cell? ⟨g,i,none⟩=some u:=by
  by_cases e:i=j
  ·subst e;exact⟨_,World.cell?_setCell_same _ _ _ (by rw[ci])⟩
  ·exact⟨_,(World.cell?_setCell_other _ _ _ _ (by simpa using e)).trans ci⟩
 generalize d.size=n at hi hj;clear hH hxi hxj;go_enter Try.func119,Try.ntmps119;go_wp2;go_region
 first|go_end0|((try simp only[Exit.inBlock,Exit.then]);refine bodyPost_ret (results_none rfl _ _ _) rfl ?_)
 exact⟨rfl,hP.out _ rfl⟩
theorem par_tdiv (j:Nat):Int.tdiv ((j:Int)-1) 2=(par j:Int):=by
 unfold par;rcases Nat.eq_zero_or_pos j with rfl|h
 ·rfl
 ·obtain⟨k,rfl⟩: ∃k,j=k+1:=⟨j-1,by omega⟩
  have:((k+1:Nat):Int)-1=(k:Int):=by omega
  rw[this,Nat.add_sub_cancel,Int.tdiv_eq_ediv_of_nonneg (by omega)];omega
theorem e117 (args:Array Value) (w:World):(callFunc 117 args).run Try.prog w= .ok (.enter 117 args) w:=enters_of Try.func117 (by kernel_rfl) rfl args w
theorem e118 (args:Array Value) (w:World):(callFunc 118 args).run Try.prog w= .ok (.enter 118 args) w:=enters_of Try.func118 (by kernel_rfl) rfl args w
theorem e119 (args:Array Value) (w:World):(callFunc 119 args).run Try.prog w= .ok (.enter 119 args) w:=enters_of Try.func119 (by kernel_rfl) rfl args w
theorem e120 (args:Array Value) (w:World):(callFunc 120 args).run Try.prog w= .ok (.enter 120 args) w:=enters_of Try.func120 (by kernel_rfl) rfl args w
theorem e121 (args:Array Value) (w:World):(callFunc 121 args).run Try.prog w= .ok (.enter 121 args) w:=enters_of Try.func121 (by kernel_rfl) rfl args w
structure Tw (w:World) (q g c:Nat) (d:Array Int):Prop where
 cell:w.cell? ⟨q,5,none⟩=some (.slice (some ⟨g,0,none⟩) d.size c)
 ne:q≠g
 row:Holds (Value.int .i64) w g 0 d
abbrev hv (q:Nat):Value:= .iface 111 (.pointer (some ⟨q,5,none⟩))
theorem Tw.put {w:World} {q g c:Nat} {d d' :Array Int} (h:Tw w q g c d) (hs:d'.size=d.size) (n:Nat):Tw ((putRow (Value.int .i64) w g 0 d').drewN n) q g c d' :=by
 refine⟨?_,h.ne,?_⟩
 ·show(putRow (Value.int .i64) w g 0 d').cell? ⟨q,5,none⟩=_;rw[cell?_putRow_other _ _ _ _ _ _ (Or.inl h.ne),h.cell,hs]
 ·exact holds_putRow _ w g 0 d d' h.row hs
theorem put_put {w:World} {g:Nat} {d d' :Array Int} (hs:d'.size=d.size) (n q m:Nat):(putRow (Value.int .i64) (((putRow (Value.int .i64) w g 0 d).drewN n).drewN q) g 0 d').drewN m=(putRow (Value.int .i64) w g 0 d').drewN (n+q+m):=by
 have h1:putRow (Value.int .i64) (((putRow (Value.int .i64) w g 0 d).drewN n).drewN q) g 0 d'=((putRow (Value.int .i64) (putRow (Value.int .i64) w g 0 d) g 0 d').drewN n).drewN q:=rfl;rw[h1,putRow_putRow _ _ _ _ _ _ hs];simp only[World.drewN,Nat.add_assoc]
set_option maxHeartbeats 2000000 in
theorem up_calls {w:World} {q g c:Nat} {d:Array Int} (h:Tw w q g c d) (hsz:d.size<4611686018427387904) (j:Nat) (hj:j<d.size) (hup:HpUp d.size j d):
  Calls Try.prog 89 #[hv q,.int .i64 j] w fun e w'=>e= .returned (.tuple #[])∧ ∃d' n,w'=(putRow (Value.int .i64) w g 0 d').drewN n∧d'.size=d.size∧d'.toList.Perm d.toList∧Hp d.size d' :=by
 have H:=Aside0.mk h;have HU:=Aside0.mk hup;clear h hup;go_enter Try.func89,Try.ntmps89;go_wp2;go_loopg [1] j (fun kx s1 wr=> ∃(jk:Nat) (dk:Array Int) (n:Nat),s1= .int .i64 jk∧jk≤kx∧jk<d.size∧wr=(putRow (Value.int .i64) w g 0 dk).drewN n∧dk.size=d.size∧Aside0 (dk.toList.Perm d.toList∧HpUp d.size jk dk))
 case atStart=>exact⟨j,d,0,rfl,Nat.le_refl _,hj,(putRow_self _ _ _ _ _ H.out.row).symm,rfl,⟨.refl _,HU.out⟩⟩
 case round=>
  obtain⟨jk,dk,n,rfl,hkx,hjk,rfl,hds,HA⟩:=hrel;have T:=H.out.put hds n;have hpl:par jk<d.size:=by unfold par;omega
  have hl:=Less_calls g c dk _ T.row jk (par jk) (by omega) (by omega);have hS:=Swap_calls g c dk;obtain⟨wk,hwk⟩: ∃W,(putRow (Value.int .i64) w g 0 dk).drewN n=W:=⟨_,rfl⟩
  rw[hwk] at T hl ⊢;have m1:=mth_val rowLess T.cell;rw[hds] at hl m1;have hq:=par_tdiv jk;have hw:wrap64 ((jk:Int)-1)=(jk:Int)-1:=by unfold wrap64;omega
  by_cases c0:jk=0
  ·subst c0;go_wp2;go_end0;exact⟨rfl,dk,n,hwk.symm,hds,HA.out.1,up_stop HA.out.2 (Or.inl rfl)⟩
  ·have hne:(((par jk:Nat):Int)==(jk:Int))=false:=by
    have:=par_lt (i:=jk) (by omega);simpa using (show((par jk:Nat):Int)≠(jk:Int) by omega)
   obtain⟨xj,hxj⟩: ∃x,dk[jk]! =x:=⟨_,rfl⟩
   obtain⟨xp,hxp⟩: ∃x,dk[par jk]! =x:=⟨_,rfl⟩
   rw[hxj,hxp] at hl;by_cases hlt:xj<xp
   ·rw[decide_eq_true hlt] at hl;have hS1: ∀q',Calls Try.prog 119 #[.slice (some ⟨g,0,none⟩) dk.size c,.int .i64 (par jk:Nat),.int .i64 jk] (wk.drewN q') fun e w'=>e= .returned (.tuple #[])∧ ∃m,w'=(putRow (Value.int .i64) w g 0 (swp dk (par jk) jk)).drewN m:=fun q'=>
     (hS (wk.drewN q') T.row (par jk) jk (by omega) (by omega)).mono fun e w' ⟨he,m,hm⟩=>⟨he,n+q'+m,by rw[hm,←hwk];exact put_put (swp_size' _ _ _) n q' m⟩
    have m2 : ∀ q', Sem.run Try.prog (method 266 111 (.pointer (some ⟨q, 5, none⟩)) "Swap") (wk.drewN q') = .ok (119, .slice (some ⟨g, 0, none⟩) dk.size c) (wk.drewN q') := fun q' => mth_val rowSwap T.cell
    rw[hds] at hS1 m2;have HT:=Aside0.mk T;have f118:=e118;have f119:=e119;have HX:=Aside0.mk (And.intro hxj hxp);have HN:=Aside0.mk hne;clear T hxj hxp;go_wp2_with (first|(go_at_call 118;refine hl.mono ?_;rintro e w' ⟨rfl,q1,rfl⟩)|(go_at_call 119;refine(hS1 _).mono ?_;rintro e w' ⟨rfl,q2,rfl⟩));go_roundg (par jk)
    case measure=>have:=par_lt (i:=jk) (by omega);omega
    case rel=>exact⟨par jk,swp dk (par jk) jk,_,rfl,Nat.le_refl _,hpl,rfl,by rw[swp_size',hds],⟨(swp_perm dk (by omega) (by omega)).trans HA.out.1,up_go HA.out.2 (by omega) hjk (by omega) (by rw[HX.out.1,HX.out.2];exact hlt)⟩⟩
   ·rw[decide_eq_false hlt] at hl;have f118:=e118;have HX:=Aside0.mk (And.intro hxj hxp);clear hxj hxp hS;go_wp2_with (first|(go_at_call 118;refine hl.mono ?_;rintro e w' ⟨rfl,q1,rfl⟩));go_end0;exact⟨rfl,dk,n+q1,by rw[←hwk];simp only[World.drewN,Nat.add_assoc],hds,HA.out.1,up_stop HA.out.2 (Or.inr (by rw[HX.out.1,HX.out.2];omega))⟩
end Go.Proofs.Ytjegeghigfmkoaa.T
namespace Go.Proofs.Ytjegeghigfmkoaa.T
open Go.RowKit Go.Sort Go.Proofs.Ytjegeghigfmkoaa.X Go.Proofs.YtjegeghigfmkoaaW.PrintWords Go.Proofs.YtjegeghigfmkoaaW.PrintLast Go.Proofs.YtjegeghigfmkoaaW.PrintMore
set_option linter.unusedVariables false
set_option linter.unusedSimpArgs false
set_option maxRecDepth 100000
set_option maxHeartbeats 8000000 in
theorem down_calls {w:World} {q g c N:Nat} {d:Array Int} (h:Tw w q g c d) (hsz:d.size<4611686018427387904) (hN:N+1=d.size) (hdn:HpDn N 0 d):
  Calls Try.prog 76 #[hv q,.int .i64 0,.int .i64 N] w fun e w'=>(∃b,e= .returned (.bool b))∧ ∃d' n,w'=(putRow (Value.int .i64) w g 0 d').drewN n∧d'.size=d.size∧d'.toList.Perm d.toList∧Hp N d'∧d'[N]! =d[N]! :=by
 have H:=Aside0.mk h;have HU:=Aside0.mk hdn;have f118:=e118;have f119:=e119;clear h hdn;go_enter Try.func76,Try.ntmps76;go_wp2;go_loopg [7] N (fun kx s7 wr=> ∃(ik:Nat) (dk:Array Int) (n:Nat),s7= .int .i64 ik∧N-ik≤kx∧ik≤N∧wr=(putRow (Value.int .i64) w g 0 dk).drewN n∧dk.size=d.size∧Aside0 (dk.toList.Perm d.toList∧HpDn N ik dk)∧Aside0 (dk[N]! =d[N]!))
 case atStart=>exact⟨0,d,0,by go_num,by omega,by omega,(putRow_self _ _ _ _ _ H.out.row).symm,rfl,⟨.refl _,HU.out⟩,⟨rfl⟩⟩
 case round=>
  obtain⟨ik,dk,n,rfl,hkx,hik,rfl,hds,HA,HLA⟩:=hrel;have T:=H.out.put hds n;have hS:=Swap_calls g c dk;obtain⟨wk,hwk⟩: ∃W,(putRow (Value.int .i64) w g 0 dk).drewN n=W:=⟨_,rfl⟩
  have HWE:Aside0 (∀q',wk.drewN q'=(putRow (Value.int .i64) w g 0 dk).drewN (n+q')):=⟨fun q'=>by rw[←hwk];simp only[World.drewN,Nat.add_assoc]⟩
  have HS:Aside0 (∀q' i j,i<d.size→j<d.size→Calls Try.prog 119 #[.slice (some ⟨g,0,none⟩) d.size c,.int .i64 i,.int .i64 j] (wk.drewN q') fun e w'=>e= .returned (.tuple #[])∧ ∃m,w'=(putRow (Value.int .i64) w g 0 (swp dk i j)).drewN m):=⟨fun q' i j hi hj=>by
   have t:=hS (wk.drewN q') (by rw[←hwk];exact T.row) i j (by omega) (by omega);rw[hds] at t;exact t.mono fun e w' ⟨he,m,hm⟩=>⟨he,n+q'+m,by rw[hm,←hwk];exact put_put (swp_size' _ _ _) n q' m⟩⟩
  rw[hwk] at T ⊢;have HL:Aside0 (∀i j,i<d.size→j<d.size→ ∀q',Calls Try.prog 118 #[.slice (some ⟨g,0,none⟩) d.size c,.int .i64 i,.int .i64 j] (wk.drewN q') fun e w'=>e= .returned (.bool (decide (dk[i]! <dk[j]!)))∧ ∃m,w'=wk.drewN m):=⟨fun i j hi hj q'=>by
   have t:=Less_calls g c dk (wk.drewN q') T.row i j (by omega) (by omega);rw[hds] at t;exact t.mono fun e w' ⟨he,m,hm⟩=>⟨he,q'+m,by rw[hm];simp only[World.drewN,Nat.add_assoc]⟩⟩
  have m1 : ∀ q', Sem.run Try.prog (method 266 111 (.pointer (some ⟨q, 5, none⟩)) "Less") (wk.drewN q') = .ok (118, .slice (some ⟨g, 0, none⟩) d.size c) (wk.drewN q') := fun q' => by have := mth_val rowLess (w := wk.drewN q') T.cell; rw [hds] at this; exact this
  have m2 : ∀ q', Sem.run Try.prog (method 266 111 (.pointer (some ⟨q, 5, none⟩)) "Swap") (wk.drewN q') = .ok (119, .slice (some ⟨g, 0, none⟩) d.size c) (wk.drewN q') := fun q' => by have := mth_val rowSwap (w := wk.drewN q') T.cell; rw [hds] at this; exact this
  have m1' :=m1 0;have hw1:wrap64 (2*(ik:Int))=2*(ik:Int):=by unfold wrap64;omega
  have hw2:wrap64 (2*(ik:Int)+1)=2*(ik:Int)+1:=by unfold wrap64;omega
  have hw3:wrap64 (2*(ik:Int)+1+1)=2*(ik:Int)+1+1:=by unfold wrap64;omega
  have h00:wk.drewN 0=wk:=rfl;rw[h00] at m1';have HT:=Aside0.mk T;clear T hS;by_cases c1:2*ik+1<N
  ·have c1z: ¬((N:Int)≤2*(ik:Int)+1):=by omega
   have c1n: ¬(2*(ik:Int)+1<0):=by omega
   obtain⟨x1,x1e⟩: ∃x,dk[2*ik+1]! =x:=⟨_,rfl⟩
   obtain⟨x2,x2e⟩: ∃x,dk[2*ik+2]! =x:=⟨_,rfl⟩
   obtain⟨xi,xie⟩: ∃x,dk[ik]! =x:=⟨_,rfl⟩
   have HX1:=Aside0.mk x1e;have HX2:=Aside0.mk x2e;have HXi:=Aside0.mk xie;by_cases c2:2*ik+2<N
   ·have c2z:2*(ik:Int)+1+1<(N:Int):=by omega
    by_cases l21:x2<x1
    ·by_cases lji:x2<xi
     ·have hlj:=HL.out (2*ik+2) ik (by omega) (by omega);rw[HX2.out,HXi.out,decide_eq_true (by omega)] at hlj;rw[show(((2*ik+2):Nat):Int)=2*(ik:Int)+1+1 by omega] at hlj;have hl2:=HL.out (2*ik+2) (2*ik+1) (by omega) (by omega);rw[HX2.out,HX1.out,decide_eq_true (by omega)] at hl2;rw[show((2*ik+2:Nat):Int)=2*(ik:Int)+1+1 by omega,show((2*ik+1:Nat):Int)=2*(ik:Int)+1 by omega] at hl2;have hs:=fun q'=>HS.out q' ik (2*ik+2) (by omega) (by omega)
      rw[show(((2*ik+2):Nat):Int)=2*(ik:Int)+1+1 by omega] at hs;have hl20:=hl2 0;rw[h00] at hl20;clear hl2;clear x1e x2e xie;go_wp2_with (first|(go_at_call 118;refine hl20.mono ?_;clear hl20;rintro e w' ⟨rfl,q1,rfl⟩)|(go_at_call 118;refine(hlj _).mono ?_;clear hlj;rintro e w' ⟨rfl,q3,rfl⟩)|(go_at_call 119;refine(hs _).mono ?_;clear hs;rintro e w' ⟨rfl,q2,rfl⟩));go_roundg (N- (2*ik+2))
      case measure=>omega
      case rel=>exact⟨(2*ik+2),swp dk ik (2*ik+2),_,by go_num,by omega,by omega,rfl,by rw[swp_size',hds],⟨(swp_perm dk (by omega) (by omega)).trans HA.out.1,dn_go HA.out.2 (by omega) (by omega) (by omega) (by omega) ((par_iff (by omega)).2 (Or.inr rfl)) (by rw[HXi.out,HX2.out];omega) (fun i h0 hi hp=>by rcases(par_iff h0).1 hp with rfl|rfl<;>simp only[HX1.out,HX2.out,HXi.out]<;>omega)⟩,⟨(swp_other _ _ _ _ (by omega) (by omega)).trans HLA.out⟩⟩
     ·have hlj:=HL.out (2*ik+2) ik (by omega) (by omega);rw[HX2.out,HXi.out,decide_eq_false (by omega)] at hlj;rw[show(((2*ik+2):Nat):Int)=2*(ik:Int)+1+1 by omega] at hlj;have hl2:=HL.out (2*ik+2) (2*ik+1) (by omega) (by omega);rw[HX2.out,HX1.out,decide_eq_true (by omega)] at hl2;rw[show((2*ik+2:Nat):Int)=2*(ik:Int)+1+1 by omega,show((2*ik+1:Nat):Int)=2*(ik:Int)+1 by omega] at hl2;have hl20:=hl2 0;rw[h00] at hl20;clear hl2;clear x1e x2e xie;go_wp2_with (first|(go_at_call 118;refine hl20.mono ?_;clear hl20;rintro e w' ⟨rfl,q1,rfl⟩)|(go_at_call 118;refine(hlj _).mono ?_;clear hlj;rintro e w' ⟨rfl,q3,rfl⟩));go_ret;exact⟨⟨_,rfl⟩,dk,_,HWE.out _,hds,HA.out.1,dn_stop HA.out.2 (fun i h0 hi hp=>by rcases(par_iff h0).1 hp with rfl|rfl<;>simp only[HX1.out,HX2.out,HXi.out]<;>omega),HLA.out⟩
    ·by_cases lji:x1<xi
     ·have hlj:=HL.out (2*ik+1) ik (by omega) (by omega);rw[HX1.out,HXi.out,decide_eq_true (by omega)] at hlj;rw[show(((2*ik+1):Nat):Int)=2*(ik:Int)+1 by omega] at hlj;have hl2:=HL.out (2*ik+2) (2*ik+1) (by omega) (by omega);rw[HX2.out,HX1.out,decide_eq_false (by omega)] at hl2;rw[show((2*ik+2:Nat):Int)=2*(ik:Int)+1+1 by omega,show((2*ik+1:Nat):Int)=2*(ik:Int)+1 by omega] at hl2;have hs:=fun q'=>HS.out q' ik (2*ik+1) (by omega) (by omega)
      rw[show(((2*ik+1):Nat):Int)=2*(ik:Int)+1 by omega] at hs;have hl20:=hl2 0;rw[h00] at hl20;clear hl2;clear x1e x2e xie;go_wp2_with (first|(go_at_call 118;refine hl20.mono ?_;clear hl20;rintro e w' ⟨rfl,q1,rfl⟩)|(go_at_call 118;refine(hlj _).mono ?_;clear hlj;rintro e w' ⟨rfl,q3,rfl⟩)|(go_at_call 119;refine(hs _).mono ?_;clear hs;rintro e w' ⟨rfl,q2,rfl⟩));go_roundg (N- (2*ik+1))
      case measure=>omega
      case rel=>exact⟨(2*ik+1),swp dk ik (2*ik+1),_,by go_num,by omega,by omega,rfl,by rw[swp_size',hds],⟨(swp_perm dk (by omega) (by omega)).trans HA.out.1,dn_go HA.out.2 (by omega) (by omega) (by omega) (by omega) ((par_iff (by omega)).2 (Or.inl rfl)) (by rw[HXi.out,HX1.out];omega) (fun i h0 hi hp=>by rcases(par_iff h0).1 hp with rfl|rfl<;>simp only[HX1.out,HX2.out,HXi.out]<;>omega)⟩,⟨(swp_other _ _ _ _ (by omega) (by omega)).trans HLA.out⟩⟩
     ·have hlj:=HL.out (2*ik+1) ik (by omega) (by omega);rw[HX1.out,HXi.out,decide_eq_false (by omega)] at hlj;rw[show(((2*ik+1):Nat):Int)=2*(ik:Int)+1 by omega] at hlj;have hl2:=HL.out (2*ik+2) (2*ik+1) (by omega) (by omega);rw[HX2.out,HX1.out,decide_eq_false (by omega)] at hl2;rw[show((2*ik+2:Nat):Int)=2*(ik:Int)+1+1 by omega,show((2*ik+1:Nat):Int)=2*(ik:Int)+1 by omega] at hl2;have hl20:=hl2 0;rw[h00] at hl20;clear hl2;clear x1e x2e xie;go_wp2_with (first|(go_at_call 118;refine hl20.mono ?_;clear hl20;rintro e w' ⟨rfl,q1,rfl⟩)|(go_at_call 118;refine(hlj _).mono ?_;clear hlj;rintro e w' ⟨rfl,q3,rfl⟩));go_ret;exact⟨⟨_,rfl⟩,dk,_,HWE.out _,hds,HA.out.1,dn_stop HA.out.2 (fun i h0 hi hp=>by rcases(par_iff h0).1 hp with rfl|rfl<;>simp only[HX1.out,HX2.out,HXi.out]<;>omega),HLA.out⟩
   ·have c2z: ¬(2*(ik:Int)+1+1<(N:Int)):=by omega
    have c2d:decide (2*(ik:Int)+1+1<(N:Int))=false:=decide_eq_false c2z;by_cases lji:x1<xi
    ·have hlj:=HL.out (2*ik+1) ik (by omega) (by omega);rw[HX1.out,HXi.out,decide_eq_true (by omega)] at hlj;rw[show(((2*ik+1):Nat):Int)=2*(ik:Int)+1 by omega] at hlj;have hs:=fun q'=>HS.out q' ik (2*ik+1) (by omega) (by omega)
     rw[show(((2*ik+1):Nat):Int)=2*(ik:Int)+1 by omega] at hs;have hlj0:=hlj 0;rw[h00] at hlj0;clear hlj;clear x1e x2e xie;go_wp2_with (first|(go_at_call 118;refine hlj0.mono ?_;clear hlj0;rintro e w' ⟨rfl,q3,rfl⟩)|(go_at_call 119;refine(hs _).mono ?_;clear hs;rintro e w' ⟨rfl,q2,rfl⟩));go_roundg (N- (2*ik+1))
     case measure=>omega
     case rel=>exact⟨(2*ik+1),swp dk ik (2*ik+1),_,by go_num,by omega,by omega,rfl,by rw[swp_size',hds],⟨(swp_perm dk (by omega) (by omega)).trans HA.out.1,dn_go HA.out.2 (by omega) (by omega) (by omega) (by omega) ((par_iff (by omega)).2 (Or.inl rfl)) (by rw[HXi.out,HX1.out];omega) (fun i h0 hi hp=>by rcases(par_iff h0).1 hp with rfl|rfl<;>simp only[HX1.out,HX2.out,HXi.out]<;>omega)⟩,⟨(swp_other _ _ _ _ (by omega) (by omega)).trans HLA.out⟩⟩
    ·have hlj:=HL.out (2*ik+1) ik (by omega) (by omega);rw[HX1.out,HXi.out,decide_eq_false (by omega)] at hlj;rw[show(((2*ik+1):Nat):Int)=2*(ik:Int)+1 by omega] at hlj;have hlj0:=hlj 0;rw[h00] at hlj0;clear hlj;clear x1e x2e xie;go_wp2_with (first|(go_at_call 118;refine hlj0.mono ?_;clear hlj0;rintro e w' ⟨rfl,q3,rfl⟩));go_ret;exact⟨⟨_,rfl⟩,dk,_,HWE.out _,hds,HA.out.1,dn_stop HA.out.2 (fun i h0 hi hp=>by rcases(par_iff h0).1 hp with rfl|rfl<;>simp only[HX1.out,HX2.out,HXi.out]<;>omega),HLA.out⟩
  ·have c1z:(N:Int)≤2*(ik:Int)+1:=by omega
   go_wp2;go_ret;exact⟨⟨_,rfl⟩,dk,_,HWE.out 0,hds,HA.out.1,dn_stop HA.out.2 (fun i h0 hi hp=>by rcases(par_iff h0).1 hp with rfl|rfl<;>omega),HLA.out⟩
end Go.Proofs.Ytjegeghigfmkoaa.T
