/- Walk of State.meets: a range over the map of panes. Conditions: those typed. -/
import Derived.Test.YtjegeghigfmkoaaMStatePlays15
import Derived.Test.YtjegeghigfmkoaaMStatePlays20
import Derived.Test.YtjegeghigfmkoaaMStatePlays11
import Derived.Test.YtjegeghigfmkoaaMStatePlays9
namespace Go.Proofs.Ytjegeghigfmkoaa.T
open Go.RowKit Go.Maps Go.Sort Go.Proofs.Ytjegeghigfmkoaa.X Go.Proofs.YtjegeghigfmkoaaW.PrintWords Go.Proofs.YtjegeghigfmkoaaW.PrintLast Go.Proofs.YtjegeghigfmkoaaW.PrintMore
attribute [local go_sem] max2_int min2_int max_two min_two max_three min_three max_four min_four   -- for this text's walks alone
set_option linter.unusedVariables false
set_option linter.unusedSimpArgs false
set_option maxRecDepth 100000
variable {F:Nat→Prop} {N:Nat} {w w' :World} {q b1 b2:Nat} {tv:Value} {tm:List Int} {s:St}
abbrev aggP (p:S70):Value:= .agg #[.int .i64 p.f0,.int .i64 p.f1.f0,.int .i64 p.f1.f1,.int .i64 p.f2]
def Hit (p x:S70):Prop:=x.f0=p.f0∧mx x.f1.f0 p.f1.f0<mn x.f1.f1 p.f1.f1
theorem keyL_eq {x y:S70} (h:keyV x=keyV y):keyL x=keyL y∧x.f0=y.f0∧x.f1=y.f1:=by
 unfold keyV at h;simp at h;obtain⟨e1,e2,e3⟩:=h;refine⟨by unfold keyL;rw[e1,e2,e3],e1,?_⟩;cases hx:x.f1;cases hy:y.f1;rw[hx,hy] at e2 e3
 simp_all
theorem Al.entry {D:DU} {l:List S70} (a1:Al D l) (h64: ∀x ∈ l,P64 x) {x:S70} {c:Int} {kl:Lit} {y:DU×List MemPlace} (hkey:keyOf Try.prog 98 (keyV x)=some kl) (hv:RA (.int .i64 c)=some y) (hat: ∀zd,D.atKey kl zd=y.1):
  (⟨x.f0,x.f1,c⟩:S70)∈ l∧kl=keyL x:=by
 obtain⟨p',hp',_,e1,rfl⟩:=keyOf98_inv hkey;obtain⟨e2,e3,e4⟩:=keyL_eq e1;have hh:=has_true_of_atKey hat;rw[a1.has,List.any_eq_true] at hh;obtain⟨z,hz,hs⟩:=hh;rw[sameKey_keyL hp' (h64 z hz)] at hs;obtain⟨s1,s2⟩:=(same_iff _ _).1 hs;have hz2:=a1.at_ z hz (.lit (.int .i64 0));rw[←(keyL_same hp' (h64 z hz)).2 hs,hat] at hz2;obtain⟨c',ec,ey,_⟩:=plainElem_int_inv Try.underlying2 hv;injection ec with _ ec
 rw[ey] at hz2;injection hz2 with hz2
 injection hz2 with _ hz2
 refine⟨?_,e2.symm⟩
 have:(⟨x.f0,x.f1,c⟩:S70)=z:=by
  cases z
  simp_all
 rw[this];exact hz
theorem set4 {w:World} {g:Nat} {t:TypeId} {a b c d:Value} (h:w.heap[g]? =some (.cells #[a,b,c,d] t (0,0))) (a' b' c' d' :Value):((((w.setCell ⟨g,0,none⟩ a').setCell ⟨g,1,none⟩ b').setCell ⟨g,2,none⟩ c').setCell ⟨g,3,none⟩ d').heap[g]? =some (.cells #[a',b',c',d'] t (0,0)):=
 blk_set (blk_set (blk_set (blk_set h 0 a') 1 b') 2 c') 3 d'
def Met (p:S70) (ps:List S70) (e:Ending):Prop:=(∃x,e= .returned (.tuple #[aggP x,.bool true])∧x ∈ ps∧Hit p x)∨(∃x,e= .returned (.tuple #[aggP x,.bool false])∧ ∀y ∈ ps,¬Hit p y)
set_option maxHeartbeats 4000000 in
theorem meets_calls (h:IsS F N w q s) (p:S70):Calls Try.prog 62 #[.pointer (some ⟨q,0,none⟩),aggP p] w fun e w'=>Met p s.ps e∧Below w.heap.size w w' :=by
 obtain⟨b1,b2,tv,tm,h⟩:=h;obtain⟨c0,c1,c2,c3,c4,c5,c6⟩:=h.cells;obtain⟨D,m1,a1⟩:=h.all;have HA:=Aside0.mk a1;have H64:=Aside0.mk h.p64;have HB0:=Aside0.mk (((Below.refl w.heap.size w).alloc (Nat.le_refl _) (.cells #[.int .i64 p.f0,.int .i64 p.f1.f0,.int .i64 p.f1.f1,.int .i64 p.f2] 70)).alloc (by simp) (.cells #[.int .i64 0,.int .i64 0,.int .i64 0,.int .i64 0] 70));have HP0:=Aside0.mk (blk_below (heap_alloc_new w (.cells #[.int .i64 p.f0,.int .i64 p.f1.f0,.int .i64 p.f1.f1,.int .i64 p.f2] 70)) ((Below.refl _ _).alloc (Nat.le_refl _) (.cells #[.int .i64 0,.int .i64 0,.int .i64 0,.int .i64 0] 70)));have HR0:=Aside0.mk (heap_alloc_new (w.alloc (.cells #[.int .i64 p.f0,.int .i64 p.f1.f0,.int .i64 p.f1.f1,.int .i64 p.f2] 70)) (.cells #[.int .i64 0,.int .i64 0,.int .i64 0,.int .i64 0] 70));have hsz1:(w.alloc (.cells #[.int .i64 p.f0,.int .i64 p.f1.f0,.int .i64 p.f1.f1,.int .i64 p.f2] 70)).heap.size=w.heap.size+1:=by simp
 rw[hsz1] at HR0;have hown:=(m1.alloc (.cells #[.int .i64 p.f0,.int .i64 p.f1.f0,.int .i64 p.f1.f1,.int .i64 p.f2] 70)).alloc (.cells #[.int .i64 0,.int .i64 0,.int .i64 0,.int .i64 0] 70);have c4' :=pw_cell_below HB0.out c4;clear h a1 m1 c0 c1 c2 c3 c4 c5 c6;go_enter Try.func62,Try.ntmps62
 go_wp2_with (first
  |(at_range;refine wpList_range_own _ rfl _ 82 rfl 98 2 keyed98 Try.underlying82 _ b1 N _ rfl hown ?_;intro w0 hrg0 hg0 hs0;simp only[World.size_alloc] at hrg0 hs0 ⊢)
  |go_in)
 have hgr:Aside0 (w.heap.size+2≤w0.heap.size):=⟨by rw[hs0];omega⟩
 go_frame
 go_loopw [] (fun wr=> ∃(left:Lit→Bool) (cnt:Nat),wr.ranges Try.prog 98 RA b1 (w.heap.size+1+1) N D left cnt∧Hid (∀y ∈ s.ps,left (keyL y)=false→ ¬Hit p y)∧Hid (w0.grownBy wr (some (w.heap.size+1+1))))
  (fun wr=>wr.rangeLeft b1 (w.heap.size+1+1))
 case atStart=>exact⟨_,_,hrg0,(show Hid _ from fun y hy hl=>by
  have:=HA.out.has (keyL y);rw[hl] at this;have h2:(s.ps.any fun p=>(keyL p).sameKey (keyL y))=true:=List.any_eq_true.2 ⟨y,hy,by simp[keyL,Lit.sameKey]⟩;rw[h2] at this;cases this),⟨rfl,rfl,rfl,Nat.le_refl _,fun _ _ _=>rfl⟩⟩
 case round=>
  obtain⟨left,cnt,hrg,hno,hgw⟩:=hrel;have HP1:=Aside0.mk (blk_grown (blk_grown HP0.out hg0 (by simp)) hgw.out (fun e=>by injection e with e;omega));have HR1:=Aside0.mk (blk_grown (blk_grown HR0.out hg0 (by simp)) hgw.out (fun e=>by injection e with e;omega));have HBW:Aside0 (Below w.heap.size w wr):=⟨(HB0.out.grown hg0 (by simp;omega) (fun k e=>by cases e)).grown hgw.out (by have:=hgr.out;omega) (fun k e=>by cases e;omega)⟩
  go_wp2_with (first
   |(at_next;refine wpList_next_ranges _ rfl _ rfl 98 keyed98 RA keyV (Value.int .i64) (fun key kl h=>by obtain⟨x,_,_,hx,_⟩:=keyOf98_inv h;exact⟨x,hx⟩) (fun v y h=>by obtain⟨c,hc,_⟩:=plainElem_int_inv Try.underlying2 h;exact⟨c,hc⟩) b1 (w.heap.size+1+1) N _ _ _ rfl hrg ?_ ?_)
   |go_in)
  ·intro _ hl0;have r0:=(blk_cell HR1.out 0).trans rfl;have r1:=(blk_cell HR1.out 1).trans rfl;have r2:=(blk_cell HR1.out 2).trans rfl;have r3:=(blk_cell HR1.out 3).trans rfl;have f0:=blk_frozen HR1.out 0;have f1:=blk_frozen HR1.out 1;have f2:=blk_frozen HR1.out 2;have f3:=blk_frozen HR1.out 3;go_wp2
   (try simp only[Exit.inBlock,Exit.then])
   refine bodyPost_ret (v:= .tuple #[aggP ⟨0,⟨0,0⟩,0⟩,.bool false]) ?_ rfl ?_
   ·have e0:=set4 HR1.out (.int .i64 0) (.int .i64 0) (.int .i64 0) (.int .i64 0);have z0:=(blk_cell e0 0).trans rfl;have z1:=(blk_cell e0 1).trans rfl;have z2:=(blk_cell e0 2).trans rfl;have z3:=(blk_cell e0 3).trans rfl;simp[results,Try.results62,go_sem,z0,z1,z2,z3,aggP]
   ·refine⟨Or.inr ⟨_,rfl,fun y hy=>hno y hy (hl0 _)⟩,(((HBW.out.setCell (p:=⟨w.heap.size+1,0,none⟩) (by show _≤w.heap.size+1;omega) _).setCell (p:=⟨w.heap.size+1,1,none⟩) (by show _≤w.heap.size+1;omega) _).setCell (p:=⟨w.heap.size+1,2,none⟩) (by show _≤w.heap.size+1;omega) _).setCell (p:=⟨w.heap.size+1,3,none⟩) (by show _≤w.heap.size+1;omega) _⟩
  ·intro x c kl y1 y2 w1 cnt1 hkey hlx hv hat hrg1 hlt hg1 hs1 hen;obtain⟨hmem,rfl⟩:=HA.out.entry H64.out hkey hv hat;have HM:=Aside0.mk hmem;have HP2:=Aside0.mk (blk_grown HP1.out hg1 (fun e=>by injection e with e;omega));have HR2:=Aside0.mk (blk_grown HR1.out hg1 (fun e=>by injection e with e;omega));have hgw1:=hgw.out.andThen hg1 (fun j hj=>by cases hj;exact Or.inr rfl);have HBW1:Aside0 (Below w.heap.size w w1):=⟨HBW.out.grown hg1 HBW.out.size (fun k e=>by cases e;omega)⟩
   have hba:=(Below.refl w1.heap.size w1).alloc (Nat.le_refl _) (.cells #[.int .i64 x.f0,.int .i64 x.f1.f0,.int .i64 x.f1.f1] 98);have p0:=pw_cell_below hba ((blk_cell HP2.out 0).trans rfl);have p1:=pw_cell_below hba ((blk_cell HP2.out 1).trans rfl);have p2:=pw_cell_below hba ((blk_cell HP2.out 2).trans rfl);have HR3:=Aside0.mk (blk_below HR2.out hba);have HBW2:=Aside0.mk (HBW1.out.alloc HBW1.out.size (.cells #[.int .i64 x.f0,.int .i64 x.f1.f0,.int .i64 x.f1.f1] 98));have k0:=(blk_cell (heap_alloc_new w1 (.cells #[.int .i64 x.f0,.int .i64 x.f1.f0,.int .i64 x.f1.f1] 98)) 0).trans rfl;have k1:=(blk_cell (heap_alloc_new w1 (.cells #[.int .i64 x.f0,.int .i64 x.f1.f0,.int .i64 x.f1.f1] 98)) 1).trans rfl;have k2:=(blk_cell (heap_alloc_new w1 (.cells #[.int .i64 x.f0,.int .i64 x.f1.f0,.int .i64 x.f1.f1] 98)) 2).trans rfl;rw[hs1] at k0 k1 k2;rw[k98] at hen;have HK:=Aside0.mk (show Hid _ from hno);have HG1:=Aside0.mk hgw1;have HRG:=Aside0.mk hrg1;have HRL:=Aside0.mk (And.intro hrg.left_eq hlt);clear hkey hv hat hmem hno hgw hgw1 hg1 hba hrg hrg1 hlt;rw[k98]
   have HNL:Aside0 (¬Hit p ⟨x.f0,x.f1,c⟩→ ∀y ∈ s.ps,(left (keyL y) && !(keyL y).sameKey (keyL x))=false→ ¬Hit p y):=⟨fun hn y hy hl=>by
    rw[Bool.and_eq_false_iff] at hl;rcases hl with hl|hl
    ·exact HK.out y hy hl
    ·have hxx:(keyL y).sameKey (keyL (⟨x.f0,x.f1,c⟩:S70))=true:=show(keyL y).sameKey (keyL x)=true from by simpa using hl
     rw[sameKey_keyL (H64.out _ HM.out) (H64.out _ hy)] at hxx;obtain⟨s1,s2⟩:=(same_iff _ _).1 hxx;unfold Hit at hn ⊢;rw[s1,s2];exact hn⟩
   by_cases ck:x.f0=p.f0
   ·have ck1:(x.f0==p.f0)=true:=by simpa using ck
    have CK:=Aside0.mk ck;clear ck;obtain⟨m1,hm1⟩: ∃m,mx x.f1.f0 p.f1.f0=m:=⟨_,rfl⟩
    obtain⟨m2,hm2⟩: ∃m,mn x.f1.f1 p.f1.f1=m:=⟨_,rfl⟩
    have hm1_:(if x.f1.f0<p.f1.f0 then p.f1.f0 else x.f1.f0)=m1:=hm1;have hm2_:(if p.f1.f1<x.f1.f1 then p.f1.f1 else x.f1.f1)=m2:=hm2;have HM1:=Aside0.mk hm1;have HM2:=Aside0.mk hm2;clear hm1 hm2;by_cases ch:m1<m2
    ·have chd:=decide_eq_true ch;have CH:=Aside0.mk ch;clear ch;have r0:=(blk_cell HR3.out 0).trans rfl;have r1:=(blk_cell HR3.out 1).trans rfl;have r2:=(blk_cell HR3.out 2).trans rfl;have r3:=(blk_cell HR3.out 3).trans rfl;have f0:=blk_frozen HR3.out 0;have f1:=blk_frozen HR3.out 1;have f2:=blk_frozen HR3.out 2;have f3:=blk_frozen HR3.out 3;go_wp2
     (try simp only[Exit.inBlock,Exit.then])
     refine bodyPost_ret (v:= .tuple #[aggP ⟨x.f0,x.f1,c⟩,.bool true]) ?_ rfl ?_
     ·have e0:=set4 HR3.out (.int .i64 x.f0) (.int .i64 x.f1.f0) (.int .i64 x.f1.f1) (.int .i64 c);have z0:=(blk_cell e0 0).trans rfl;have z1:=(blk_cell e0 1).trans rfl;have z2:=(blk_cell e0 2).trans rfl;have z3:=(blk_cell e0 3).trans rfl;simp[results,Try.results62,go_sem,z0,z1,z2,z3,aggP]
     ·exact⟨Or.inl ⟨_,rfl,HM.out,CK.out,by rw[HM1.out,HM2.out];exact CH.out⟩,(((HBW2.out.setCell (p:=⟨w.heap.size+1,0,none⟩) (by show _≤w.heap.size+1;omega) _).setCell (p:=⟨w.heap.size+1,1,none⟩) (by show _≤w.heap.size+1;omega) _).setCell (p:=⟨w.heap.size+1,2,none⟩) (by show _≤w.heap.size+1;omega) _).setCell (p:=⟨w.heap.size+1,3,none⟩) (by show _≤w.heap.size+1;omega) _⟩
    ·have chd:=decide_eq_false ch;have CH:=Aside0.mk ch;clear ch;go_wp2;go_roundw
     case rel=>exact⟨_,_,HRG.out.alloc _,HNL.out (fun h=>CH.out (by have:=h.2;rwa [HM1.out,HM2.out] at this)),HG1.out.andThen (World.grownBy_alloc w1 _ none) (fun j hj=>by cases hj)⟩
     case measure=>rw[(HRG.out.alloc _).left_eq,HRL.out.1];exact HRL.out.2
   ·have ck1:(x.f0==p.f0)=false:=by simpa using ck
    have CK:=Aside0.mk ck;clear ck;go_wp2;go_roundw
    case rel=>exact⟨_,_,HRG.out.alloc _,HNL.out (fun h=>CK.out h.1),HG1.out.andThen (World.grownBy_alloc w1 _ none) (fun j hj=>by cases hj)⟩
    case measure=>rw[(HRG.out.alloc _).left_eq,HRL.out.1];exact HRL.out.2
end Go.Proofs.Ytjegeghigfmkoaa.T
namespace Go.Proofs.Ytjegeghigfmkoaa.T
open Go.RowKit Go.Maps Go.Sort Go.Proofs.Ytjegeghigfmkoaa.X Go.Proofs.YtjegeghigfmkoaaW.PrintWords Go.Proofs.YtjegeghigfmkoaaW.PrintLast Go.Proofs.YtjegeghigfmkoaaW.PrintMore
set_option linter.unusedVariables false
set_option linter.unusedSimpArgs false
set_option maxRecDepth 100000
variable {F:Nat→Prop} {N:Nat} {w w' :World} {q b1 b2:Nat} {tv:Value} {tm:List Int} {s:St}
abbrev aggW (kind size slide:Int):Value:= .agg #[.int .i64 kind,.int .i64 size,.int .i64 slide]
set_option maxHeartbeats 4000000 in
theorem New_calls (w:World) (kind size slide a:Int):Calls Try.prog 11 #[aggW kind size slide,.int .i64 a] w fun e w'=> ∃q,e= .returned (.pointer (some ⟨q,0,none⟩))∧IsS (fun k=>w.heap.size≤k∧k<w'.heap.size) 0 w' q ⟨kind,size,slide,a,[]⟩∧Below w.heap.size w w' :=by
 have hmm:= @run_makeMap Try.prog;have hu82:=Try.underlying82;have hu83:=Try.underlying83;obtain⟨w1,hw1⟩: ∃W,w.alloc (.cells #[.int .i64 kind,.int .i64 size,.int .i64 slide] 23)=W:=⟨_,rfl⟩
 have hs1:w1.heap.size=w.heap.size+1:=by rw[←hw1];simp
 have hb1:Below w.heap.size w w1:=by rw[←hw1];exact(Below.refl _ w).alloc (Nat.le_refl _) _
 have m1:(w1.alloc (.map #[] 0)).ownsMap Try.prog 98 RA w1.heap.size 0 (.map []):=World.ownsMap_made w1 Try.prog 98 RA;have m2:((w1.alloc (.map #[] 0)).alloc (.map #[] 0)).ownsMap Try.prog 2 RE (w1.alloc (.map #[] 0)).heap.size 0 (.map []):=World.ownsMap_made _ Try.prog 2 RE;have hs2:(w1.alloc (.map #[] 0)).heap.size=w.heap.size+1+1:=by simp[hs1]
 have hs3:((w1.alloc (.map #[] 0)).alloc (.map #[] 0)).heap.size=w.heap.size+1+1+1:=by simp[hs1]
 rw[hs2] at m2;rw[hs1] at m1;have m1' :=m1.alloc (.map #[] 0);have hb3:Below w.heap.size w ((w1.alloc (.map #[] 0)).alloc (.map #[] 0)):=(hb1.alloc (by omega) _).alloc (by rw[hs2];omega) _;have hq:=heap_alloc_new ((w1.alloc (.map #[] 0)).alloc (.map #[] 0)) (.cells #[.int .i64 kind,.int .i64 size,.int .i64 slide,.int .i64 a,.map (some (w.heap.size+1)),.slice none 0 0,.map (some (w.heap.size+1+1))] 87);have hs4:(((w1.alloc (.map #[] 0)).alloc (.map #[] 0)).alloc (.cells #[.int .i64 kind,.int .i64 size,.int .i64 slide,.int .i64 a,.map (some (w.heap.size+1)),.slice none 0 0,.map (some (w.heap.size+1+1))] 87)).heap.size=w.heap.size+4:=by simp[hs1]
 rw[hs3] at hq;have HE:Aside0 (IsS (fun k=>w.heap.size≤k∧k<(((w1.alloc (.map #[] 0)).alloc (.map #[] 0)).alloc (.cells #[.int .i64 kind,.int .i64 size,.int .i64 slide,.int .i64 a,.map (some (w.heap.size+1)),.slice none 0 0,.map (some (w.heap.size+1+1))] 87)).heap.size) 0 (((w1.alloc (.map #[] 0)).alloc (.map #[] 0)).alloc (.cells #[.int .i64 kind,.int .i64 size,.int .i64 slide,.int .i64 a,.map (some (w.heap.size+1)),.slice none 0 0,.map (some (w.heap.size+1+1))] 87)) (w.heap.size+1+1+1) ⟨kind,size,slide,a,[]⟩∧Below w.heap.size w (((w1.alloc (.map #[] 0)).alloc (.map #[] 0)).alloc (.cells #[.int .i64 kind,.int .i64 size,.int .i64 slide,.int .i64 a,.map (some (w.heap.size+1)),.slice none 0 0,.map (some (w.heap.size+1+1))] 87))):=⟨⟨w.heap.size+1,w.heap.size+1+1,.slice none 0 0,[],hq,⟨_,m1'.alloc _,Al.nil⟩,⟨_,m2.alloc _,Ed.nil⟩,own_nil _ _ _ _,fun i h0 hi=>by simp at hi,Nat.le_refl _,fun p hp=>(by cases hp),fun x hx=>(by cases hx),⟨by omega,by rw[hs4];omega⟩,⟨by omega,by rw[hs4];omega⟩,⟨by omega,by rw[hs4];omega⟩,fun g hg=>(by cases hg),by omega,List.Pairwise.nil,fun p hp=>(by cases hp),by omega,fun k hk=>hk.2,Nat.le_refl _⟩,hb3.alloc (by rw[hs3];omega) _⟩
 subst hw1;clear m1 m2 m1' hb3 hq hs1 hs2 hs3 hs4 hb1;go_enter Try.func11,Try.ntmps11;go_wp2;go_ret;exact⟨_,rfl,HE.out⟩
def SpS (kind size slide t:Int) (sp:List S68):Prop:=(kind=0∧sp=[⟨-9223372036854775808,2199023255553⟩])∨(kind≠0∧ ∃k,window_Spans.f k kind size slide t=some sp)
theorem R_one (w:World) (B:Nat) (hB:B≤w.heap.size) (x:S68):Kd.R k68 68 (w.alloc (.cells #[.int .i64 x.f0,.int .i64 x.f1] 68)) B (fun _=>True) (.slice (some ⟨w.heap.size,0,none⟩) 1 1) [x]:=
 ⟨fun _ _=>trivial,_,World.ownsRow_lit (e:=68) (size:=2) w #[.int .i64 x.f0,.int .i64 x.f1] 1 hB (by unfold maxLen;omega) rfl,Reps.c2 (k68_mkM _ _ _ x) (Reps.none _ _)⟩
set_option maxHeartbeats 4000000 in
theorem Spans_calls (h:IsS F N w q s) (t:Int) (sp:List S68) (hsp:SpS s.kind s.size s.slide t sp):Calls Try.prog 35 #[.pointer (some ⟨q,0,none⟩),.int .i64 t] w fun e w'=> ∃v,e= .returned v∧Kd.R k68 68 w' w.heap.size (fun _=>True) v sp∧Below w.heap.size w w' :=by
 obtain⟨b1,b2,tv,tm,h⟩:=h;obtain⟨c0,c1,c2,c3,c4,c5,c6⟩:=h.cells;clear h c3 c4 c5 c6;rcases hsp with ⟨hk,rfl⟩|⟨hk,k,hsp⟩
 ·rw[hk] at c0;have K:=fun W=>state_everything.calls (-9223372036854775808) 2199023255553 W rfl
  go_enter Try.func35,Try.ntmps35;go_wp2_with (go_at_call 58;refine(K _).mono ?_;rintro e w1 ⟨rfl,hb⟩);go_ret;exact⟨_,rfl,R_one w1 _ hb.size ⟨-9223372036854775808,2199023255553⟩,hb.alloc hb.size _⟩
 ·have hk1:(s.kind==0)=false:=by simpa using hk
  have K:=fun W=>window_Spans.calls k s.kind s.size s.slide t sp W hsp
  have HK:=Aside0.mk hk;clear hk hsp;go_enter Try.func35,Try.ntmps35;go_wp2_with (go_at_call 59;refine(K _).mono ?_;rintro e w1 ⟨v,rfl,hR,hb⟩);go_ret;exact⟨_,rfl,hR,hb⟩
end Go.Proofs.Ytjegeghigfmkoaa.T
namespace Go.Proofs.Ytjegeghigfmkoaa.T
open Go.RowKit Go.Maps Go.Sort Go.Proofs.Ytjegeghigfmkoaa Go.Proofs.Ytjegeghigfmkoaa.X Go.Proofs.YtjegeghigfmkoaaW.PrintWords Go.Proofs.YtjegeghigfmkoaaW.PrintLast Go.Proofs.YtjegeghigfmkoaaW.PrintMore
attribute [local go_sem] max2_int min2_int max_two min_two max_three min_three max_four min_four   -- for this text's walks alone
set_option linter.unusedVariables false
set_option linter.unusedSimpArgs false
set_option maxRecDepth 100000
variable {F:Nat→Prop} {N:Nat} {w w' :World} {q b1 b2:Nat} {tv:Value} {tm:List Int} {s:St}
abbrev aggR (r:S39):Value:= .agg #[.int .i64 r.f0,.int .i64 r.f1,.int .i64 r.f2]
abbrev aggSp (x:S68):Value:= .agg #[.int .i64 x.f0,.int .i64 x.f1]
abbrev cellsP (p:S70):Array Value:= #[.int .i64 p.f0,.int .i64 p.f1.f0,.int .i64 p.f1.f1,.int .i64 p.f2]
theorem To.below_ {w1:World} (hb:Below w.heap.size w w1) {N2:Nat} {s2:St} (h:To F w1 w' N2 q s2):To F w w' N2 q s2:=by
 have h1:=hb.size;have h2:=h.fr.size
 exact⟨h.is.mono (fun k hk=>by
  rcases hk with hk|hk
  ·exact Or.inl hk
  ·exact Or.inr ⟨by omega,hk.2⟩) (fun k hk=>by
   rcases hk with hk|hk
   ·exact h.is.bound k (Or.inl hk)
   ·exact hk.2) (Nat.le_refl _) h.is.small,((Fr.refl F w).below hb).trans h.fr⟩
inductive Mgd (a:Int) (p:S70) (l:List S70):S70→List S70→Prop
 |done:Mgd a p l p l
 |step {p1:S70} {l1:List S70} {x:S70} (h:Mgd a p l p1 l1) (hx:x ∈ l1) (hh:Hit p1 x):Mgd a p l (joinP a p1 x) (outP x l1)
def IntoS (kind a key val:Int) (sp:S68) (ps ps' :List S70):Prop:=
 if kind=3 then ∃p' rest,Mgd a ⟨key,sp,aggZero a⟩ ps p' rest∧(∀y ∈ rest,¬Hit p' y)∧ps'=layP ⟨p'.f0,p'.f1,aggAdd a p'.f2 val⟩ rest
 else ps'=layP ⟨key,sp,aggAdd a (if hasP ⟨key,sp,aggZero a⟩ ps=true then accP ⟨key,sp,aggZero a⟩ ps else aggZero a) val⟩ ps
theorem zeroA_in (a:Int):I64 (aggZero a):=by unfold aggZero I64;split<;>(try split)<;>omega
theorem addA_in (a x y:Int) (hx:I64 x) (hy:I64 y):I64 (aggAdd a x y):=by
 have h1:Go.Proofs.Ytjegeghigfmkoaa.I64 (aggBoth a x (aggVal a y)):=both_in a hx (val_in a hy);unfold aggAdd;split
 ·exact h1
 ·unfold I64;omega
theorem mergeA_in (a x y:Int) (hx:I64 x) (hy:I64 y):I64 (aggMerge a x y):=by
 have h1:Go.Proofs.Ytjegeghigfmkoaa.I64 (aggBoth a x y):=both_in a hx hy;unfold aggMerge;split
 ·exact h1
 ·unfold I64;omega
theorem join_64 (a:Int) {p x:S70} (hp:P64 p) (hx:P64 x):P64 (joinP a p x):=by
 refine⟨hp.k,?_,?_,mergeA_in _ _ _ hp.a hx.a⟩
 ·show I64 (mn p.f1.f0 x.f1.f0);unfold mn;split
  ·exact hx.f
  ·exact hp.f
 ·show I64 (mx p.f1.f1 x.f1.f1);unfold mx;split
  ·exact hx.t
  ·exact hp.t
theorem hasP_mem {x:S70} {l:List S70} (h:x ∈ l):hasP x l=true:=List.any_eq_true.2 ⟨x,h,same_refl x⟩
def MetB (p:S70) (ps:List S70) (b:Bool) (x:S70):Prop:=(b=true∧x ∈ ps∧Hit p x)∨(b=false∧ ∀y ∈ ps,¬Hit p y)
theorem meets_is (h:IsS F N w q s) (p:S70):Calls Try.prog 62 #[.pointer (some ⟨q,0,none⟩),aggP p] w fun e w'=> ∃x b,e= .returned (.tuple #[aggP x,.bool b])∧MetB p s.ps b x∧Below w.heap.size w w' :=
 (meets_calls h p).mono fun e w' ⟨hm,hb⟩=>by
  rcases hm with ⟨x,e1,h2⟩|⟨x,e1,h2⟩
  ·exact⟨x,true,e1,Or.inl ⟨rfl,h2⟩,hb⟩
  ·exact⟨x,false,e1,Or.inr ⟨rfl,h2⟩,hb⟩
theorem Fr.mix {M:Nat→Prop} {a b:World} {F1:Nat→Prop} {wr w2:World} (h:Fr F a wr) (ho: ∀k,F1 k→F k∨a.heap.size≤k) (h2:Fr F1 wr w2) (h3:Fr M w2 b) (hM: ∀k,M k→a.heap.size≤k):Fr F a b:=by
 have s1:=h.size;have s2:=h2.size;have s3:=h3.size
 exact⟨h3.os.trans (h2.os.trans h.os),h3.tape.trans (h2.tape.trans h.tape),h3.output.trans (h2.output.trans h.output),by omega,fun k hk hn=>
  (h3.block k (by omega) (fun m=>by have:=hM k m;omega)).trans ((h2.block k (by omega) (fun m=>by rcases ho k m with h|h;exact hn h;omega)).trans (h.block k hk hn))⟩
structure Lp (F:Nat→Prop) (N:Nat) (w:World) (q B C:Nat) (s:St) (r:S39) (p0:S70) (k:Nat) (b:Bool) (wr:World) (F1:Nat→Prop) (N1:Nat) (p1 x:S70) (l1:List S70):Prop where
 is:IsS F1 N1 wr q {s with ps:=l1}
 fr:Fr F w wr
 old: ∀k,F1 k→F k∨w.heap.size≤k
 nB: ¬F1 B
 nR: ¬F1 w.heap.size
 nC: ¬F1 C
 hB:wr.heap[B]? =some (.cells (cellsP p1) 70 (0,0))
 hC:wr.heap[C]? =some (.cells (cellsP x) 70 (0,0))
 hR:wr.heap[w.heap.size]? =some (.cells #[.int .i64 r.f0,.int .i64 r.f1,.int .i64 r.f2] 39 (0,0))
 CB:C≠B
 Cs:w.heap.size≤C∧C≠w.heap.size
 p64:P64 p1
 md:Mgd s.a p0 s.ps p1 l1
 met:MetB p1 l1 b x
 pot:N1+l1.length≤N+s.ps.length
 k:l1.length≤k
theorem accP_in {p:S70} {ps:List S70} (h: ∀x ∈ ps,P64 x):I64 (accP p ps):=by
 unfold accP;split
 ·rename_i x hx;exact(h x (List.mem_of_find?_eq_some hx)).a
 ·unfold I64;omega
def Tpi.T1:Bool×List (List Nat×List Nat):=(true,[([],[]),([0],[0]),([],[]),([],[]),([3],[3]),([4],[4]),([5],[5]),([6],[6]),([1,2,7],[1,2,7]),([],[]),([9,8,7,0,1,2,3,4,5,6,7,8,9],[8,9])])
def Tpi.B1:List Nat:=[0,1,0,0,8,24,56,120,255,0,1023]
theorem Tpi.tab1:rtab .any (opsOf Try.f36 1)=Tpi.T1:=by kernel_rfl
theorem Tpi.bits1:waitsOk Tpi.T1.2 Tpi.B1=true:=by kernel_rfl
def Tpi.T6:Bool×List (List Nat×List Nat):=(true,[([],[]),([0],[0]),([1],[1]),([2],[2]),([],[]),([4],[4]),([],[]),([6],[6]),([3,5,7],[3,5,7]),([0,1,2,3,4,5,6,7,8],[]),([9,8,8,0,1,2,3,4,5,6,7,8],[8,9])])
def Tpi.B6:List Nat:=[0,1,3,7,0,16,0,64,255,511,1023]
theorem Tpi.tab6:rtab .any (opsOf Try.f36 6)=Tpi.T6:=by kernel_rfl
theorem Tpi.bits6:waitsOk Tpi.T6.2 Tpi.B6=true:=by kernel_rfl
def Tpi.T13:Bool×List (List Nat×List Nat):=(true,[([],[]),([0],[0]),([1],[1]),([2],[2]),([],[]),([4],[4]),([],[]),([6],[6]),([3,5,7],[3,5,7]),([0,1,2,3,4,5,6,7,8],[]),([9,8,8,0,1,2,3,4,5,6,7,8],[8,9])])
def Tpi.B13:List Nat:=[0,1,3,7,0,16,0,64,255,511,1023]
theorem Tpi.tab13:rtab .any (opsOf Try.f36 13)=Tpi.T13:=by kernel_rfl
theorem Tpi.bits13:waitsOk Tpi.T13.2 Tpi.B13=true:=by kernel_rfl
def Tpi.T16:Bool×List (List Nat×List Nat):=(true,[([],[]),([0],[0]),([1],[1]),([2],[2]),([],[]),([4],[4]),([],[]),([6],[6]),([3,5,7],[3,5,7]),([0,1,2,3,4,5,6,7,8],[]),([9,8,8,0,1,2,3,4,5,6,7,8],[8,9])])
def Tpi.B16:List Nat:=[0,1,3,7,0,16,0,64,255,511,1023]
theorem Tpi.tab16:rtab .any (opsOf Try.f36 16)=Tpi.T16:=by kernel_rfl
theorem Tpi.bits16:waitsOk Tpi.T16.2 Tpi.B16=true:=by kernel_rfl
set_option maxHeartbeats 4000000 in
theorem PutInto_calls (h:IsS F N w q s) (hN:N+s.ps.length+2≤1000000) (r:S39) (sp:S68) (hr:I64 r.f0∧I64 r.f2) (hsp:I64 sp.f0∧I64 sp.f1):
  Calls Try.prog 36 #[.pointer (some ⟨q,0,none⟩),aggR r,aggSp sp] w fun e w'=>e= .returned (.tuple #[])∧ ∃N' ps',To F w w' N' q {s with ps:=ps'}∧N'+ps'.length≤N+s.ps.length+2∧IntoS s.kind s.a r.f0 r.f2 sp s.ps ps' :=by
 have HI:=Aside0.mk h;have HN:=Aside0.mk hN;have HR:=Aside0.mk hr;have HSP:=Aside0.mk hsp;clear h hN hr hsp;go_enter Try.func36,Try.ntmps36;go_wp2_with fail;have HB1:=Aside0.mk (((Below.refl w.heap.size w).alloc (Nat.le_refl _) (.cells #[.int .i64 r.f0,.int .i64 r.f1,.int .i64 r.f2] 39)).alloc (by simp) (.cells #[.int .i64 sp.f0,.int .i64 sp.f1] 68));have HRB:=Aside0.mk (blk_below (heap_alloc_new w (.cells #[.int .i64 r.f0,.int .i64 r.f1,.int .i64 r.f2] 39)) ((Below.refl _ _).alloc (Nat.le_refl _) (.cells #[.int .i64 sp.f0,.int .i64 sp.f1] 68)));have HSB:=Aside0.mk (heap_alloc_new (w.alloc (.cells #[.int .i64 r.f0,.int .i64 r.f1,.int .i64 r.f2] 39)) (.cells #[.int .i64 sp.f0,.int .i64 sp.f1] 68));have hsz1:(w.alloc (.cells #[.int .i64 r.f0,.int .i64 r.f1,.int .i64 r.f2] 39)).heap.size=w.heap.size+1:=by simp
 rw[hsz1] at HSB;generalize hw1:((w.alloc (.cells #[.int .i64 r.f0,.int .i64 r.f1,.int .i64 r.f2] 39)).alloc (.cells #[.int .i64 sp.f0,.int .i64 sp.f1] 68))=w1 at HB1 HRB HSB ⊢;clear hw1 hsz1;have H1:=Aside0.mk (HI.out.below HB1.out);have KZ:=fun W=>zero_any s.a W
 obtain⟨b1,b2,tv,tm,h1⟩:=id H1.out;refine start_ (n:=11) (S:=fun w'=>w'.cell? ⟨q,3,none⟩=some (.int .i64 s.a)∧w'.cell? ⟨w.heap.size,0,none⟩=some (.int .i64 r.f0)∧w'.cell? ⟨w.heap.size+1,0,none⟩=some (.int .i64 sp.f0)∧w'.cell? ⟨w.heap.size+1,1,none⟩=some (.int .i64 sp.f1)) (ds:=[10]) #[false,false,false,false,false,false,false,false,false,false,false] (by kernel_rfl) rfl rfl ⟨h1.cells.2.2.2.1,(blk_cell HRB.out 0).trans rfl,(blk_cell HSB.out 0).trans rfl,(blk_cell HSB.out 1).trans rfl⟩ (fun hHeld=> ?_);refine with_tabW Tpi.tab1 Tpi.bits1 (fun HT_ HW_=> ?_);have HCELL:=Aside0.mk (show ∀W,Below w1.heap.size w1 W→W.cell? ⟨q,3,none⟩=some (.int .i64 s.a)∧W.cell? ⟨w.heap.size,0,none⟩=some (.int .i64 r.f0)∧W.cell? ⟨w.heap.size+1,0,none⟩=some (.int .i64 sp.f0)∧W.cell? ⟨w.heap.size+1,1,none⟩=some (.int .i64 sp.f1) from fun W hb=>⟨(h1.below hb).cells.2.2.2.1,(blk_cell (blk_below HRB.out hb) 0).trans rfl,(blk_cell (blk_below HSB.out hb) 0).trans rfl,(blk_cell (blk_below HSB.out hb) 1).trans rfl⟩);have HBd:=Aside0.mk ((Below.refl w1.heap.size w1).drew);clear h1;generalize World.drew _=w3 at HBd hHeld ⊢;refine pure_ (i:=0) (N:=some 11) (v:= ?_) (a' := ?_) #[true,false,false,false,false,false,false,false,false,false,false] rfl rfl (any_of HT_.out (by kernel_rfl)) (fun _ _ _ h=>h) (Or.inl ⟨by rfl,?_⟩) ?_ ?_;rotate_left
 ·intro w';go_simp
  with_reducible rfl
 rotate_left
 ·simp only[Act.put,List.setIfInBounds_toArray,List.set_cons_zero,List.set_cons_succ,i64_w,i32_w];rfl
 refine take_ (i:=1) (N:=some 12) (v:= ?_) (a' := ?_) #[true,true,false,false,false,false,false,false,false,false,false] rfl rfl (take_ofW HT_.out HW_.out (by kernel_rfl)) (fun _ _ _ h=>h) (Or.inl ⟨by rfl,?_⟩) hHeld ?_ ?_;rotate_left
 ·rintro w' ⟨s0,s1,s2,s3⟩;go_simp
  with_reducible rfl
 rotate_left
 ·simp only[Act.put,List.setIfInBounds_toArray,List.set_cons_zero,List.set_cons_succ,i64_w,i32_w];rfl
 refine take_ (i:=2) (N:=some 13) (v:= ?_) (a' := ?_) #[true,true,true,false,false,false,false,false,false,false,false] rfl rfl (take_ofW HT_.out HW_.out (by kernel_rfl)) (fun _ _ _ h=>h) (Or.inl ⟨by rfl,?_⟩) hHeld ?_ ?_;rotate_left
 ·rintro w' ⟨s0,s1,s2,s3⟩;go_simp
  with_reducible rfl
 rotate_left
 ·simp only[Act.put,List.setIfInBounds_toArray,List.set_cons_zero,List.set_cons_succ,i64_w,i32_w];rfl
 refine pure_ (i:=3) (N:=some 14) (v:= ?_) (a' := ?_) #[true,true,true,true,false,false,false,false,false,false,false] rfl rfl (any_of HT_.out (by kernel_rfl)) (fun _ _ _ h=>h) (Or.inl ⟨by rfl,?_⟩) ?_ ?_;rotate_left
 ·intro w';go_simp
  with_reducible rfl
 rotate_left
 ·simp only[Act.put,List.setIfInBounds_toArray,List.set_cons_zero,List.set_cons_succ,i64_w,i32_w];rfl
 refine pure_ (i:=4) (N:=some 15) (v:= ?_) (a' := ?_) #[true,true,true,true,true,false,false,false,false,false,false] rfl rfl (any_of HT_.out (by kernel_rfl)) (fun _ _ _ h=>h) (Or.inl ⟨by rfl,?_⟩) ?_ ?_;rotate_left
 ·intro w';go_simp
  with_reducible rfl
 rotate_left
 ·simp only[Act.put,List.setIfInBounds_toArray,List.set_cons_zero,List.set_cons_succ,i64_w,i32_w];rfl
 refine pure_ (i:=5) (N:=some 16) (v:= ?_) (a' := ?_) #[true,true,true,true,true,true,false,false,false,false,false] rfl rfl (any_of HT_.out (by kernel_rfl)) (fun _ _ _ h=>h) (Or.inl ⟨by rfl,?_⟩) ?_ ?_;rotate_left
 ·intro w';go_simp
  with_reducible rfl
 rotate_left
 ·simp only[Act.put,List.setIfInBounds_toArray,List.set_cons_zero,List.set_cons_succ,i64_w,i32_w];rfl
 refine take_ (i:=6) (N:=some 17) (v:= ?_) (a' := ?_) #[true,true,true,true,true,true,true,false,false,false,false] rfl rfl (take_ofW HT_.out HW_.out (by kernel_rfl)) (fun _ _ _ h=>h) (Or.inl ⟨by rfl,?_⟩) hHeld ?_ ?_;rotate_left
 ·rintro w' ⟨s0,s1,s2,s3⟩;go_simp
  with_reducible rfl
 rotate_left
 ·simp only[Act.put,List.setIfInBounds_toArray,List.set_cons_zero,List.set_cons_succ,i64_w,i32_w];rfl
 refine join_ (σ:=Nat) 1 #[true,true,true,true,true,true,true,true,true,true,false] (fun B=>[(18,.int .i64 (aggZero s.a)),(19,.agg #[.int .i64 r.f0,.int .i64 sp.f0,.int .i64 sp.f1,.int .i64 (aggZero s.a)]),(6,.pointer (some ⟨B,0,none⟩))]) (fun B W=>(W.heap[B]? =some (.cells #[.int .i64 0,.int .i64 0,.int .i64 0,.int .i64 0] 70 (0,0))∧w1.heap.size≤B)∧Below w1.heap.size w1 W) ?_ ?_;rotate_left
 ·intro hCont;refine two_ (i:=7) (j:=9) (Ni:=(some 18)) (Nj:=(some 6)) #[true,true,true,true,true,true,true,true,false,false,false] #[true,true,true,true,true,true,true,false,false,true,false] rfl rfl rfl rfl (two_of HT_.out (by kernel_rfl)) (by decide) (by decide) (fun K hK=> ?_) (fun K hK=> ?_)
  ·skip
   refine goes_ Try.func60 (by kernel_rfl) rfl #[.int .i64 s.a] (by rfl) rfl rfl (by(try simp only[List.map_toArray,List.map_cons,List.map_nil]);first|done|rfl) ?_;refine(KZ _).mono ?_;rintro e w4 ⟨rfl,hb4⟩;refine⟨_,rfl,?_⟩;have HB4:=Aside0.mk (HBd.out.trans (hb4.mono HBd.out.size));clear hb4;refine hK.out _ _ (HCELL.out _ HB4.out) (fun hHeld=> ?_);clear hK K;refine norm_ (a' := ?_) ?_ ?_;rotate_left
   ·show Act.put _ (some 18) _=_;simp only[Act.put,List.setIfInBounds_toArray,List.set_cons_zero,List.set_cons_succ,i64_w,i32_w];rfl
   refine pure_ (i:=8) (N:=some 19) (v:= ?_) (a' := ?_) #[true,true,true,true,true,true,true,true,true,false,false] rfl rfl (any_of HT_.out (by kernel_rfl)) (fun _ _ _ h=>h) (Or.inl ⟨by rfl,?_⟩) ?_ ?_;rotate_left
   ·intro w';go_simp
    with_reducible rfl
   rotate_left
   ·simp only[Act.put,List.setIfInBounds_toArray,List.set_cons_zero,List.set_cons_succ,i64_w,i32_w];rfl
   refine one_ (i:=9) (N:=some 6) #[true,true,true,true,true,true,true,true,true,true,false] rfl rfl (one_of HT_.out (by kernel_rfl)) (by decide) (fun K hK=> ?_);refine value_ (v:= .pointer (some ⟨w4.heap.size,0,none⟩)) (w1:=w4.alloc (.cells #[.int .i64 0,.int .i64 0,.int .i64 0,.int .i64 0] 70)) (by rfl) rfl ?_ ?_
   ·go_simp
    first|done|rfl|simp[Result.andThen]
   have HB5:=Aside0.mk (HB4.out.alloc HB4.out.size (.cells #[.int .i64 0,.int .i64 0,.int .i64 0,.int .i64 0] 70));refine hK.out _ _ (HCELL.out _ HB5.out) (fun hHeld=> ?_);clear hK K;refine norm_ (a' := ?_) ?_ ?_;rotate_left
   ·show Act.put _ (some 6) _=_;simp only[Act.put,List.setIfInBounds_toArray,List.set_cons_zero,List.set_cons_succ,i64_w,i32_w];rfl
   exact norm_ (by simp only[putAll,Act.put,List.setIfInBounds_toArray,List.set_cons_zero,List.set_cons_succ]) (hCont w4.heap.size _ ⟨⟨heap_alloc_new w4 _,HB4.out.size⟩,HB5.out⟩)
  ·skip
   refine value_ (v:= .pointer (some ⟨w3.heap.size,0,none⟩)) (w1:=w3.alloc (.cells #[.int .i64 0,.int .i64 0,.int .i64 0,.int .i64 0] 70)) (by rfl) rfl ?_ ?_
   ·go_simp
    first|done|rfl|simp[Result.andThen]
   have HB4:=Aside0.mk (HBd.out.alloc HBd.out.size (.cells #[.int .i64 0,.int .i64 0,.int .i64 0,.int .i64 0] 70));refine hK.out _ _ (HCELL.out _ HB4.out) (fun hHeld=> ?_);clear hK K;refine norm_ (a' := ?_) ?_ ?_;rotate_left
   ·show Act.put _ (some 6) _=_;simp only[Act.put,List.setIfInBounds_toArray,List.set_cons_zero,List.set_cons_succ,i64_w,i32_w];rfl
   refine one_ (i:=7) (N:=some 18) #[true,true,true,true,true,true,true,true,false,true,false] rfl rfl (one_of HT_.out (by kernel_rfl)) (by decide) (fun K hK=> ?_);refine goes_ Try.func60 (by kernel_rfl) rfl #[.int .i64 s.a] (by rfl) rfl rfl (by(try simp only[List.map_toArray,List.map_cons,List.map_nil]);first|done|rfl) ?_;refine(KZ _).mono ?_;rintro e w5 ⟨rfl,hb5⟩;refine⟨_,rfl,?_⟩;have HNB:=Aside0.mk (blk_below (heap_alloc_new w3 (.cells #[.int .i64 0,.int .i64 0,.int .i64 0,.int .i64 0] 70)) hb5);have HB5:=Aside0.mk (HB4.out.trans (hb5.mono HB4.out.size));clear hb5;refine hK.out _ _ (HCELL.out _ HB5.out) (fun hHeld=> ?_);clear hK K;refine norm_ (a' := ?_) ?_ ?_;rotate_left
   ·show Act.put _ (some 18) _=_;simp only[Act.put,List.setIfInBounds_toArray,List.set_cons_zero,List.set_cons_succ,i64_w,i32_w];rfl
   refine pure_ (i:=8) (N:=some 19) (v:= ?_) (a' := ?_) #[true,true,true,true,true,true,true,true,true,true,false] rfl rfl (any_of HT_.out (by kernel_rfl)) (fun _ _ _ h=>h) (Or.inl ⟨by rfl,?_⟩) ?_ ?_;rotate_left
   ·intro w';go_simp
    with_reducible rfl
   rotate_left
   ·simp only[Act.put,List.setIfInBounds_toArray,List.set_cons_zero,List.set_cons_succ,i64_w,i32_w];rfl
   exact norm_ (by simp only[putAll,Act.put,List.setIfInBounds_toArray,List.set_cons_zero,List.set_cons_succ]) (hCont w3.heap.size _ ⟨⟨HNB.out,HBd.out.size⟩,HB5.out⟩)
 rintro B w5 ⟨⟨hB,hBs⟩,hb5⟩;have HB5:=Aside0.mk hb5;have HBs:=Aside0.mk hBs;have HBB:=Aside0.mk hB;have hHeld:=HCELL.out _ hb5;have b0:=(blk_cell hB 0).trans rfl;have b1_:=(blk_cell hB 1).trans rfl;have b2_:=(blk_cell hB 2).trans rfl;have b3:=(blk_cell hB 3).trans rfl;have g0:=blk_frozen hB 0;have g1:=blk_frozen hB 1;have g2:=blk_frozen hB 2;have g3:=blk_frozen hB 3;clear hb5 hBs hB;refine norm_ (a' := ?_) ?_ ?_;rotate_left
 ·simp only[putAll,Act.put,List.setIfInBounds_toArray,List.set_cons_zero,List.set_cons_succ];rfl
 refine last_ (i:=10) (N:=none) #[true,true,true,true,true,true,true,true,true,true,true] rfl rfl (one_of HT_.out (by kernel_rfl)) (by decide) (fun K hK=> ?_);refine skip_ (w1:=(((w5.setCell ⟨B,0,none⟩ (.int .i64 r.f0)).setCell ⟨B,1,none⟩ (.int .i64 sp.f0)).setCell ⟨B,2,none⟩ (.int .i64 sp.f1)).setCell ⟨B,3,none⟩ (.int .i64 (aggZero s.a))) (by rfl) rfl ?_ ?_
 ·go_simp
  first|done|rfl|simp[Result.andThen]
 refine hK.out _ _ ?_;clear hK K;refine done_ (done_of HT_.out (by kernel_rfl)) ?_;have HPB:=Aside0.mk (show((((w5.setCell ⟨B,0,none⟩ (.int .i64 r.f0)).setCell ⟨B,1,none⟩ (.int .i64 sp.f0)).setCell ⟨B,2,none⟩ (.int .i64 sp.f1)).setCell ⟨B,3,none⟩ (.int .i64 (aggZero s.a))).heap[B]? =some (.cells (cellsP ⟨r.f0,sp,aggZero s.a⟩) 70 (0,0)) from set4 HBB.out _ _ _ _)
 have HB6:=Aside0.mk (show Below w.heap.size w ((((w5.setCell ⟨B,0,none⟩ (.int .i64 r.f0)).setCell ⟨B,1,none⟩ (.int .i64 sp.f0)).setCell ⟨B,2,none⟩ (.int .i64 sp.f1)).setCell ⟨B,3,none⟩ (.int .i64 (aggZero s.a))) from by
  have h0:=HB1.out.trans (HB5.out.mono HB1.out.size);have h1:w.heap.size≤B:=Nat.le_trans HB1.out.size HBs.out;exact(((h0.setCell (p:=⟨B,0,none⟩) h1 _).setCell (p:=⟨B,1,none⟩) h1 _).setCell (p:=⟨B,2,none⟩) h1 _).setCell (p:=⟨B,3,none⟩) h1 _)
 have hlt1:=lt_of_block HRB.out
 have HR6:=Aside0.mk (show((((w5.setCell ⟨B,0,none⟩ (.int .i64 r.f0)).setCell ⟨B,1,none⟩ (.int .i64 sp.f0)).setCell ⟨B,2,none⟩ (.int .i64 sp.f1)).setCell ⟨B,3,none⟩ (.int .i64 (aggZero s.a))).heap[w.heap.size]? =some (.cells #[.int .i64 r.f0,.int .i64 r.f1,.int .i64 r.f2] 39 (0,0)) from by
  have h1:w.heap.size≠B:=fun e=>by have:=HBs.out;omega
  exact blk_far (blk_far (blk_far (blk_far (blk_below HRB.out HB5.out) (p:=⟨B,0,none⟩) h1 _) (p:=⟨B,1,none⟩) h1 _) (p:=⟨B,2,none⟩) h1 _) (p:=⟨B,3,none⟩) h1 _)
 have HBs' :Aside0 (w.heap.size≤B∧B≠w.heap.size):=⟨by have h1:=HB1.out.size;have h2:=HBs.out;omega⟩
 clear b0 b1_ b2_ b3 g0 g1 g2 g3 hHeld HBB HB5 HCELL KZ hlt1 HBd HRB HSB HB1 H1;generalize World.setCell _ _ _=w6 at HPB HB6 HR6 ⊢;clear w5;have HBs:=HBs';have H6:=Aside0.mk (HI.out.below HB6.out);obtain⟨b1,b2,tv,tm,h6⟩:=id H6.out;obtain⟨c0,c1,c2,c3,c4,c5,c6⟩:=h6.cells;by_cases hk3:s.kind=3
 ·have HK3:=Aside0.mk hk3;rw[hk3] at c0;have HP0:=Aside0.mk (show P64 (⟨r.f0,sp,aggZero s.a⟩:S70) from⟨HR.out.1,HSP.out.1,HSP.out.2,zeroA_in _⟩);obtain⟨p0,hp0⟩: ∃p:S70,p=⟨r.f0,sp,aggZero s.a⟩:=⟨_,rfl⟩
  have HE0:=Aside0.mk hp0;rw[←hp0] at HPB HP0;have k0:=(blk_cell HPB.out 0).trans rfl;have k1:=(blk_cell HPB.out 1).trans rfl;have k2:=(blk_cell HPB.out 2).trans rfl;have k3:=(blk_cell HPB.out 3).trans rfl;have KM:=meets_is H6.out p0;clear h6 hk3 c1 c2 c3 c4 c5 c6 hp0;go_wp2_with (go_at_call 62;refine KM.mono ?_;clear KM;rintro e w7 ⟨x,b,rfl,hmet,hb7⟩);have HM:=Aside0.mk hmet;have HB7:=Aside0.mk hb7;clear hmet hb7 k0 k1 k2 k3 c0;go_wp2_with fail;have HX:=Aside0.mk (heap_alloc_new w7 (.cells (cellsP x) 70));have HB8:=Aside0.mk ((HB7.out).alloc HB7.out.size (.cells (cellsP x) 70));have hs7:=HB7.out.size
  have HL0:Aside0 (Lp F N w q B w7.heap.size s r p0 s.ps.length b (w7.alloc (.cells (cellsP x) 70)) F N p0 x s.ps):=⟨by
   have hbb:Below w.heap.size w (w7.alloc (.cells (cellsP x) 70)):=HB6.out.trans (HB8.out.mono HB6.out.size);have hBl:=lt_of_block HPB.out;have hRl:=lt_of_block HR6.out;exact⟨HI.out.below hbb,(Fr.refl F w).below hbb,fun k hk=>Or.inl hk,fun hk=>by have:=HI.out.bound _ hk;have:=HBs.out.1;omega,fun hk=>by have:=HI.out.bound _ hk;omega,fun hk=>by have:=HI.out.bound _ hk;have:=HB6.out.size;omega,blk_below HPB.out HB8.out,HX.out,blk_below HR6.out HB8.out,by omega,⟨by have:=HB6.out.size;omega,by omega⟩,HP0.out,.done,HM.out,Nat.le_refl _,Nat.le_refl _⟩⟩
  clear HM HB7 HX HB8 HPB HB6 HR6 H6 HP0;generalize hCe:w7.heap.size=C at*
  generalize hw8:w7.alloc (.cells (cellsP x) 70)=w8 at*
  go_loopg [9,10] s.ps.length (fun kx s9 s10 wr=> ∃(C:Nat) (b:Bool) (F1:Nat→Prop) (N1:Nat) (p1 x:S70) (l1:List S70),s9= .pointer (some ⟨C,0,none⟩)∧s10= .bool b∧Aside0 (Lp F N w q B C s r p0 kx b wr F1 N1 p1 x l1))
  case atStart=>exact⟨C,b,F,N,p0,x,s.ps,rfl,rfl,HL0⟩
  case round=>
   clear HL0;obtain⟨C,b,F1,N1,p1,x,l1,rfl,rfl,HL⟩:=hrel;cases b with
   | true=>
    have L:=HL.out
    have hx1:x ∈ l1∧Hit p1 x:=by
     rcases L.met with h|h
     ·exact h.2
     ·exact absurd h.1 (by decide)
    have hx64:P64 x:=L.is.p64 x hx1.1;have KD:=drop_calls L.is (by have:=L.pot;have:=HN.out;have:=List.length_pos_of_mem hx1.1;omega) x hx64;have HX1:=Aside0.mk (And.intro hx1 hx64);have x0:=(blk_cell L.hC 0).trans rfl;have x1:=(blk_cell L.hC 1).trans rfl;have x2:=(blk_cell L.hC 2).trans rfl;have x3:=(blk_cell L.hC 3).trans rfl;have HBf:=Aside0.mk (fun (w2:World) (hf:Fr F1 wr w2)=>(hf.block B (lt_of_block L.hB) L.nB).trans L.hB);have HCf:=Aside0.mk (fun (w2:World) (hf:Fr F1 wr w2)=>(hf.block C (lt_of_block L.hC) L.nC).trans L.hC);have HRf:=Aside0.mk (fun (w2:World) (hf:Fr F1 wr w2)=>(hf.block _ (lt_of_block L.hR) L.nR).trans L.hR);have HCB:=Aside0.mk L.CB;clear hx1 hx64 L;obtain⟨m1,hm1⟩: ∃m,mn p1.f1.f0 x.f1.f0=m:=⟨_,rfl⟩
    obtain⟨m2,hm2⟩: ∃m,mx p1.f1.f1 x.f1.f1=m:=⟨_,rfl⟩
    have hm1_:(if x.f1.f0<p1.f1.f0 then x.f1.f0 else p1.f1.f0)=m1:=hm1;have hm2_:(if p1.f1.f1<x.f1.f1 then x.f1.f1 else p1.f1.f1)=m2:=hm2;have HM1:=Aside0.mk hm1;have HM2:=Aside0.mk hm2;clear hm1 hm2;go_wp2_with (go_at_call 63;refine KD.mono ?_;clear KD;rintro e w2 ⟨rfl,hto⟩;have HT:=Aside0.mk hto;have HBB:=Aside0.mk (HBf.out w2 hto.fr);have HCC:=Aside0.mk (HCf.out w2 hto.fr);have HRR:=Aside0.mk (HRf.out w2 hto.fr);clear hto x0 x1 x2 x3 HBf HCf HRf;have b0:=(blk_cell HBB.out 1).trans rfl;have b1:=(blk_cell HBB.out 2).trans rfl;have c0:=(blk_cell HCC.out 1).trans rfl;have c1:=(blk_cell HCC.out 2).trans rfl;have g0:=blk_frozen HBB.out 1;have g1:=blk_frozen HBB.out 2);have hB3:=blk_set (blk_set HBB.out 1 (.int .i64 m1)) 2 (.int .i64 m2);have hC3:=blk_far (blk_far HCC.out (p:=⟨B,1,none⟩) HCB.out (.int .i64 m1)) (p:=⟨B,2,none⟩) HCB.out (.int .i64 m2);have hR3:=blk_far (blk_far HRR.out (p:=⟨B,1,none⟩) (fun e=>HBs.out.2 e.symm) (.int .i64 m1)) (p:=⟨B,2,none⟩) (fun e=>HBs.out.2 e.symm) (.int .i64 m2);have HF3:=Aside0.mk (((Fr.refl (fun k=>k=B∨w2.heap.size≤k) w2).setCell (p:=⟨B,1,none⟩) (Or.inl rfl) (.int .i64 m1)).setCell (p:=⟨B,2,none⟩) (Or.inl rfl) (.int .i64 m2));have HB3:=Aside0.mk (show((w2.setCell ⟨B,1,none⟩ (.int .i64 m1)).setCell ⟨B,2,none⟩ (.int .i64 m2)).heap[B]? =some (.cells #[.int .i64 p1.f0,.int .i64 m1,.int .i64 m2,.int .i64 p1.f2] 70 (0,0)) from hB3);have HC3:=Aside0.mk hC3;have HR3:=Aside0.mk hR3;clear b0 b1 c0 c1 g0 g1 hB3 hC3 hR3 HBB HCC HRR;generalize World.setCell _ _ _=w3 at HF3 HB3 HC3 HR3 ⊢
    have HS3:Aside0 (IsS (Fx F1 wr w2) (N1+1) w3 q {s with ps:=outP x l1}):=⟨HT.out.is.fr HF3.out (fun k hk hf=>by
     rcases hk with rfl|hk
     ·rcases hf with hf|hf
      ·exact HL.out.nB hf
      ·have:=lt_of_block HL.out.hB;omega
     ·have:=HT.out.is.bound k hf;omega)⟩
    have HC8:=Aside0.mk (show ∀W,Below w3.heap.size w3 W→W.cell? ⟨q,3,none⟩=some (.int .i64 s.a)∧W.cell? ⟨B,3,none⟩=some (.int .i64 p1.f2)∧W.cell? ⟨C,3,none⟩=some (.int .i64 x.f2) from fun W hb=>by
     obtain⟨b1,b2,tv,tm,h8⟩:=HS3.out.below hb;exact⟨h8.cells.2.2.2.1,(blk_cell (blk_below HB3.out hb) 3).trans rfl,(blk_cell (blk_below HC3.out hb) 3).trans rfl⟩)
    refine start_ (n:=11) (S:=fun w'=>w'.cell? ⟨q,3,none⟩=some (.int .i64 s.a)∧w'.cell? ⟨B,3,none⟩=some (.int .i64 p1.f2)∧w'.cell? ⟨C,3,none⟩=some (.int .i64 x.f2)) (ds:=[10]) #[false,false,false,false,false,false,false,false,false,false,false] (by kernel_rfl) rfl rfl (HC8.out _ (below_drew (Below.refl _ _))) (fun hHeld=> ?_);refine with_tabW Tpi.tab13 Tpi.bits13 (fun HT_ HW_=> ?_);refine pure_ (i:=0) (N:=some 87) (v:= ?_) (a' := ?_) #[true,false,false,false,false,false,false,false,false,false,false] rfl rfl (any_of HT_.out (by kernel_rfl)) (fun _ _ _ h=>h) (Or.inl ⟨by rfl,?_⟩) ?_ ?_;rotate_left
    ·intro w';go_simp
     with_reducible rfl
    rotate_left
    ·simp only[Act.put,List.setIfInBounds_toArray,List.set_cons_zero,List.set_cons_succ,i64_w,i32_w];rfl
    refine pure_ (i:=1) (N:=some 88) (v:= ?_) (a' := ?_) #[true,true,false,false,false,false,false,false,false,false,false] rfl rfl (any_of HT_.out (by kernel_rfl)) (fun _ _ _ h=>h) (Or.inl ⟨by rfl,?_⟩) ?_ ?_;rotate_left
    ·intro w';go_simp
     with_reducible rfl
    rotate_left
    ·simp only[Act.put,List.setIfInBounds_toArray,List.set_cons_zero,List.set_cons_succ,i64_w,i32_w];rfl
    refine pure_ (i:=2) (N:=some 89) (v:= ?_) (a' := ?_) #[true,true,true,false,false,false,false,false,false,false,false] rfl rfl (any_of HT_.out (by kernel_rfl)) (fun _ _ _ h=>h) (Or.inl ⟨by rfl,?_⟩) ?_ ?_;rotate_left
    ·intro w';go_simp
     with_reducible rfl
    rotate_left
    ·simp only[Act.put,List.setIfInBounds_toArray,List.set_cons_zero,List.set_cons_succ,i64_w,i32_w];rfl
    refine take_ (i:=3) (N:=some 90) (v:= ?_) (a' := ?_) #[true,true,true,true,false,false,false,false,false,false,false] rfl rfl (take_ofW HT_.out HW_.out (by kernel_rfl)) (fun _ _ _ h=>h) (Or.inl ⟨by rfl,?_⟩) hHeld ?_ ?_;rotate_left
    ·rintro w' ⟨s0,s1,s2⟩;go_simp
     with_reducible rfl
    rotate_left
    ·simp only[Act.put,List.setIfInBounds_toArray,List.set_cons_zero,List.set_cons_succ,i64_w,i32_w];rfl
    refine pure_ (i:=4) (N:=some 91) (v:= ?_) (a' := ?_) #[true,true,true,true,true,false,false,false,false,false,false] rfl rfl (any_of HT_.out (by kernel_rfl)) (fun _ _ _ h=>h) (Or.inl ⟨by rfl,?_⟩) ?_ ?_;rotate_left
    ·intro w';go_simp
     with_reducible rfl
    rotate_left
    ·simp only[Act.put,List.setIfInBounds_toArray,List.set_cons_zero,List.set_cons_succ,i64_w,i32_w];rfl
    refine take_ (i:=5) (N:=some 92) (v:= ?_) (a' := ?_) #[true,true,true,true,true,true,false,false,false,false,false] rfl rfl (take_ofW HT_.out HW_.out (by kernel_rfl)) (fun _ _ _ h=>h) (Or.inl ⟨by rfl,?_⟩) hHeld ?_ ?_;rotate_left
    ·rintro w' ⟨s0,s1,s2⟩;go_simp
     with_reducible rfl
    rotate_left
    ·simp only[Act.put,List.setIfInBounds_toArray,List.set_cons_zero,List.set_cons_succ,i64_w,i32_w];rfl
    refine pure_ (i:=6) (N:=some 93) (v:= ?_) (a' := ?_) #[true,true,true,true,true,true,true,false,false,false,false] rfl rfl (any_of HT_.out (by kernel_rfl)) (fun _ _ _ h=>h) (Or.inl ⟨by rfl,?_⟩) ?_ ?_;rotate_left
    ·intro w';go_simp
     with_reducible rfl
    rotate_left
    ·simp only[Act.put,List.setIfInBounds_toArray,List.set_cons_zero,List.set_cons_succ,i64_w,i32_w];rfl
    refine take_ (i:=7) (N:=some 94) (v:= ?_) (a' := ?_) #[true,true,true,true,true,true,true,true,false,false,false] rfl rfl (take_ofW HT_.out HW_.out (by kernel_rfl)) (fun _ _ _ h=>h) (Or.inl ⟨by rfl,?_⟩) hHeld ?_ ?_;rotate_left
    ·rintro w' ⟨s0,s1,s2⟩;go_simp
     with_reducible rfl
    rotate_left
    ·simp only[Act.put,List.setIfInBounds_toArray,List.set_cons_zero,List.set_cons_succ,i64_w,i32_w];rfl
    refine one_ (i:=8) (N:=some 95) #[true,true,true,true,true,true,true,true,true,false,false] rfl rfl (one_of HT_.out (by kernel_rfl)) (by decide) (fun K hK=> ?_);refine goes_ Try.func44 (by kernel_rfl) rfl #[.int .i64 s.a,.int .i64 p1.f2,.int .i64 x.f2] (by rfl) rfl rfl (by(try simp only[List.map_toArray,List.map_cons,List.map_nil]);first|done|rfl) ?_;refine(merge_any s.a p1.f2 x.f2 _).mono ?_;rintro e w4 ⟨rfl,hb4⟩;refine⟨_,rfl,?_⟩;have hb4' :Below w3.heap.size w3 w4:=(below_drew (Below.refl w3.heap.size w3)).trans hb4;have HF4:=Aside0.mk (HF3.out.below hb4');have HB4:=Aside0.mk (blk_below HB3.out hb4');have HC4:=Aside0.mk (blk_below HC3.out hb4');have HR4:=Aside0.mk (blk_below HR3.out hb4');have HS4:=Aside0.mk (HS3.out.below hb4');have hc4:=HC8.out _ hb4';have g3:=blk_frozen HB4.out 3;clear hb4 hb4' HF3 HB3 HC3 HR3 HS3 HC8;refine hK.out _ _ hc4 (fun hHeld=> ?_);clear hK K;refine norm_ (a' := ?_) ?_ ?_;rotate_left
    ·show Act.put _ (some 95) _=_;simp only[Act.put,List.setIfInBounds_toArray,List.set_cons_zero,List.set_cons_succ,i64_w,i32_w];rfl
    refine pure_ (i:=9) (N:=some 96) (v:= ?_) (a' := ?_) #[true,true,true,true,true,true,true,true,true,true,false] rfl rfl (any_of HT_.out (by kernel_rfl)) (fun _ _ _ h=>h) (Or.inl ⟨by rfl,?_⟩) ?_ ?_;rotate_left
    ·intro w';go_simp
     with_reducible rfl
    rotate_left
    ·simp only[Act.put,List.setIfInBounds_toArray,List.set_cons_zero,List.set_cons_succ,i64_w,i32_w];rfl
    refine last_ (i:=10) (N:=none) #[true,true,true,true,true,true,true,true,true,true,true] rfl rfl (one_of HT_.out (by kernel_rfl)) (by decide) (fun K hK=> ?_);refine skip_ (w1:=w4.setCell ⟨B,3,none⟩ (.int .i64 (aggMerge s.a p1.f2 x.f2))) (by rfl) rfl ?_ ?_
    ·go_simp
     first|done|rfl|simp[Result.andThen]
    refine hK.out _ _ ?_;clear hK K;refine done_ (done_of HT_.out (by kernel_rfl)) ?_;have HF5:=Aside0.mk (HF4.out.setCell (p:=⟨B,3,none⟩) (Or.inl rfl) (.int .i64 (aggMerge s.a p1.f2 x.f2)))
    have HB5:=Aside0.mk (show(w4.setCell ⟨B,3,none⟩ (.int .i64 (aggMerge s.a p1.f2 x.f2))).heap[B]? =some (.cells (cellsP (joinP s.a p1 x)) 70 (0,0)) from by
     have:=blk_set HB4.out 3 (.int .i64 (aggMerge s.a p1.f2 x.f2));rw[←HM1.out,←HM2.out] at this;exact this)
    have HC5:=Aside0.mk (blk_far HC4.out (p:=⟨B,3,none⟩) HCB.out (.int .i64 (aggMerge s.a p1.f2 x.f2)));have HR5:=Aside0.mk (blk_far HR4.out (p:=⟨B,3,none⟩) (fun e=>HBs.out.2 e.symm) (.int .i64 (aggMerge s.a p1.f2 x.f2)));clear HF4 HB4 HC4 HR4 HS4 hc4 g3 hHeld hm1_ hm2_;generalize w4.setCell _ _=w5 at HF5 HB5 HC5 HR5 ⊢;have y0:=(blk_cell HC5.out 0).trans rfl;have y1:=(blk_cell HC5.out 1).trans rfl;have y2:=(blk_cell HC5.out 2).trans rfl;have y3:=(blk_cell HC5.out 3).trans rfl;have HF6:=Aside0.mk (HF5.out.alloc (.cells (cellsP x) 70));have hba:=(Below.refl w5.heap.size w5).alloc (Nat.le_refl _) (.cells (cellsP x) 70);have HB6:=Aside0.mk (blk_below HB5.out hba);have HR6:=Aside0.mk (blk_below HR5.out hba);have HN6:=Aside0.mk (heap_alloc_new w5 (.cells (cellsP x) 70))
    have HS6:Aside0 (IsS (Fx F1 wr w2) (N1+1) (w5.alloc (.cells (cellsP x) 70)) q {s with ps:=outP x l1}):=⟨HT.out.is.fr HF6.out (fun k hk hf=>by
     rcases hk with rfl|hk
     ·rcases hf with hf|hf
      ·exact HL.out.nB hf
      ·have:=lt_of_block HL.out.hB;omega
     ·have:=HT.out.is.bound k hf;omega)⟩
    have KM:=meets_is HS6.out (joinP s.a p1 x);have z0:=(blk_cell HB6.out 0).trans rfl;have z1:=(blk_cell HB6.out 1).trans rfl;have z2:=(blk_cell HB6.out 2).trans rfl;have z3:=(blk_cell HB6.out 3).trans rfl;clear hba;go_wp2_with (go_at_call 62;refine KM.mono ?_;clear KM;rintro e w7 ⟨x',b',rfl,hmet,hb7⟩;have HMT:=Aside0.mk hmet;have HF7:=Aside0.mk (HF6.out.below hb7);have HB7:=Aside0.mk (blk_below HB6.out hb7);have HR7:=Aside0.mk (blk_below HR6.out hb7);have HN7:=Aside0.mk (blk_below HN6.out hb7);clear hmet hb7 y0 y1 y2 y3 z0 z1 z2 z3;have y0:=(blk_cell HN7.out 0).trans rfl;have y1:=(blk_cell HN7.out 1).trans rfl;have y2:=(blk_cell HN7.out 2).trans rfl;have y3:=(blk_cell HN7.out 3).trans rfl;have f0:=blk_frozen HN7.out 0;have f1:=blk_frozen HN7.out 1;have f2:=blk_frozen HN7.out 2;have f3:=blk_frozen HN7.out 3);have hw5:w2.heap.size≤w5.heap.size:=HF5.out.size;have hBl:=lt_of_block HL.out.hB;have hRl:=lt_of_block HL.out.hR;have hwr2:=HT.out.fr.size;have hlen:=len_out HL.out.is.apart (hasP_mem HX1.out.1.1);have hlen' :(outP x l1).length+1=l1.length:=hlen;go_roundg (l1.length-1)
    case measure=>have:=HL.out.k;omega
    case rel=>
     refine⟨w5.heap.size,b',Fx F1 wr w2,N1+1,joinP s.a p1 x,x',outP x l1,by first|rfl|simp,rfl,⟨?_⟩⟩
     have hF8:Fr (fun k=>k=B∨w2.heap.size≤k) w2 ((((w7.setCell ⟨w5.heap.size,0,none⟩ (.int .i64 x'.f0)).setCell ⟨w5.heap.size,1,none⟩ (.int .i64 x'.f1.f0)).setCell ⟨w5.heap.size,2,none⟩ (.int .i64 x'.f1.f1)).setCell ⟨w5.heap.size,3,none⟩ (.int .i64 x'.f2)):=
      (((HF7.out.setCell (p:=⟨w5.heap.size,0,none⟩) (Or.inr hw5) _).setCell (p:=⟨w5.heap.size,1,none⟩) (Or.inr hw5) _).setCell (p:=⟨w5.heap.size,2,none⟩) (Or.inr hw5) _).setCell (p:=⟨w5.heap.size,3,none⟩) (Or.inr hw5) _
     have hne:B≠w5.heap.size:=by omega
     have hneR:w.heap.size≠w5.heap.size:=by omega
     refine⟨HT.out.is.fr hF8 (fun k hk hf=> ?_),HL.out.fr.mix HL.out.old HT.out.fr hF8 (fun k hk=> ?_),fun k hk=> ?_,fun hk=> ?_,fun hk=> ?_,fun hk=> ?_,?_,set4 HN7.out _ _ _ _,?_,by omega,⟨by omega,by omega⟩,join_64 s.a HL.out.p64 HX1.out.2,.step HL.out.md HX1.out.1.1 HX1.out.1.2,HMT.out,?_,by omega⟩
     ·rcases hk with rfl|hk
      ·rcases hf with hf|hf
       ·exact HL.out.nB hf
       ·omega
      ·have:=HT.out.is.bound k hf;omega
     ·rcases hk with rfl|hk
      ·exact HBs.out.1
      ·have:=HL.out.fr.size;omega
     ·rcases hk with hk|hk
      ·exact HL.out.old k hk
      ·have:=HL.out.fr.size;exact Or.inr (by omega)
     ·rcases hk with hk|hk
      ·exact HL.out.nB hk
      ·omega
     ·rcases hk with hk|hk
      ·exact HL.out.nR hk
      ·omega
     ·have:=HT.out.is.bound _ hk;omega
     ·exact blk_far (blk_far (blk_far (blk_far HB7.out (p:=⟨w5.heap.size,0,none⟩) hne _) (p:=⟨w5.heap.size,1,none⟩) hne _) (p:=⟨w5.heap.size,2,none⟩) hne _) (p:=⟨w5.heap.size,3,none⟩) hne _
     ·exact blk_far (blk_far (blk_far (blk_far HR7.out (p:=⟨w5.heap.size,0,none⟩) hneR _) (p:=⟨w5.heap.size,1,none⟩) hneR _) (p:=⟨w5.heap.size,2,none⟩) hneR _) (p:=⟨w5.heap.size,3,none⟩) hneR _
     ·have:=HL.out.pot;show N1+1+(outP x l1).length≤_;omega
   | false=>
    have L:=HL.out
    have HNO:Aside0 (∀y ∈ l1,¬Hit p1 y):=⟨by
     rcases L.met with h|h
     ·exact absurd h.1 (by decide)
     ·exact h.2⟩
    have HC8:=Aside0.mk (show ∀W,Below wr.heap.size wr W→W.cell? ⟨q,3,none⟩=some (.int .i64 s.a)∧W.cell? ⟨B,3,none⟩=some (.int .i64 p1.f2)∧W.cell? ⟨w.heap.size,2,none⟩=some (.int .i64 r.f2) from fun W hb=>by
     obtain⟨b1,b2,tv,tm,h8⟩:=HL.out.is.below hb;exact⟨h8.cells.2.2.2.1,(blk_cell (blk_below HL.out.hB hb) 3).trans rfl,(blk_cell (blk_below HL.out.hR hb) 2).trans rfl⟩)
    clear L;go_wp2_with fail;refine start_ (n:=11) (S:=fun w'=>w'.cell? ⟨q,3,none⟩=some (.int .i64 s.a)∧w'.cell? ⟨B,3,none⟩=some (.int .i64 p1.f2)∧w'.cell? ⟨w.heap.size,2,none⟩=some (.int .i64 r.f2)) (ds:=[10]) #[false,false,false,false,false,false,false,false,false,false,false] (by kernel_rfl) rfl rfl (HC8.out _ (below_drew (Below.refl _ _))) (fun hHeld=> ?_);refine with_tabW Tpi.tab16 Tpi.bits16 (fun HT_ HW_=> ?_);refine pure_ (i:=0) (N:=some 98) (v:= ?_) (a' := ?_) #[true,false,false,false,false,false,false,false,false,false,false] rfl rfl (any_of HT_.out (by kernel_rfl)) (fun _ _ _ h=>h) (Or.inl ⟨by rfl,?_⟩) ?_ ?_;rotate_left
    ·intro w';go_simp
     with_reducible rfl
    rotate_left
    ·simp only[Act.put,List.setIfInBounds_toArray,List.set_cons_zero,List.set_cons_succ,i64_w,i32_w];rfl
    refine pure_ (i:=1) (N:=some 99) (v:= ?_) (a' := ?_) #[true,true,false,false,false,false,false,false,false,false,false] rfl rfl (any_of HT_.out (by kernel_rfl)) (fun _ _ _ h=>h) (Or.inl ⟨by rfl,?_⟩) ?_ ?_;rotate_left
    ·intro w';go_simp
     with_reducible rfl
    rotate_left
    ·simp only[Act.put,List.setIfInBounds_toArray,List.set_cons_zero,List.set_cons_succ,i64_w,i32_w];rfl
    refine pure_ (i:=2) (N:=some 100) (v:= ?_) (a' := ?_) #[true,true,true,false,false,false,false,false,false,false,false] rfl rfl (any_of HT_.out (by kernel_rfl)) (fun _ _ _ h=>h) (Or.inl ⟨by rfl,?_⟩) ?_ ?_;rotate_left
    ·intro w';go_simp
     with_reducible rfl
    rotate_left
    ·simp only[Act.put,List.setIfInBounds_toArray,List.set_cons_zero,List.set_cons_succ,i64_w,i32_w];rfl
    refine take_ (i:=3) (N:=some 101) (v:= ?_) (a' := ?_) #[true,true,true,true,false,false,false,false,false,false,false] rfl rfl (take_ofW HT_.out HW_.out (by kernel_rfl)) (fun _ _ _ h=>h) (Or.inl ⟨by rfl,?_⟩) hHeld ?_ ?_;rotate_left
    ·rintro w' ⟨s0,s1,s2⟩;go_simp
     with_reducible rfl
    rotate_left
    ·simp only[Act.put,List.setIfInBounds_toArray,List.set_cons_zero,List.set_cons_succ,i64_w,i32_w];rfl
    refine pure_ (i:=4) (N:=some 102) (v:= ?_) (a' := ?_) #[true,true,true,true,true,false,false,false,false,false,false] rfl rfl (any_of HT_.out (by kernel_rfl)) (fun _ _ _ h=>h) (Or.inl ⟨by rfl,?_⟩) ?_ ?_;rotate_left
    ·intro w';go_simp
     with_reducible rfl
    rotate_left
    ·simp only[Act.put,List.setIfInBounds_toArray,List.set_cons_zero,List.set_cons_succ,i64_w,i32_w];rfl
    refine take_ (i:=5) (N:=some 103) (v:= ?_) (a' := ?_) #[true,true,true,true,true,true,false,false,false,false,false] rfl rfl (take_ofW HT_.out HW_.out (by kernel_rfl)) (fun _ _ _ h=>h) (Or.inl ⟨by rfl,?_⟩) hHeld ?_ ?_;rotate_left
    ·rintro w' ⟨s0,s1,s2⟩;go_simp
     with_reducible rfl
    rotate_left
    ·simp only[Act.put,List.setIfInBounds_toArray,List.set_cons_zero,List.set_cons_succ,i64_w,i32_w];rfl
    refine pure_ (i:=6) (N:=some 104) (v:= ?_) (a' := ?_) #[true,true,true,true,true,true,true,false,false,false,false] rfl rfl (any_of HT_.out (by kernel_rfl)) (fun _ _ _ h=>h) (Or.inl ⟨by rfl,?_⟩) ?_ ?_;rotate_left
    ·intro w';go_simp
     with_reducible rfl
    rotate_left
    ·simp only[Act.put,List.setIfInBounds_toArray,List.set_cons_zero,List.set_cons_succ,i64_w,i32_w];rfl
    refine take_ (i:=7) (N:=some 105) (v:= ?_) (a' := ?_) #[true,true,true,true,true,true,true,true,false,false,false] rfl rfl (take_ofW HT_.out HW_.out (by kernel_rfl)) (fun _ _ _ h=>h) (Or.inl ⟨by rfl,?_⟩) hHeld ?_ ?_;rotate_left
    ·rintro w' ⟨s0,s1,s2⟩;go_simp
     with_reducible rfl
    rotate_left
    ·simp only[Act.put,List.setIfInBounds_toArray,List.set_cons_zero,List.set_cons_succ,i64_w,i32_w];rfl
    refine one_ (i:=8) (N:=some 106) #[true,true,true,true,true,true,true,true,true,false,false] rfl rfl (one_of HT_.out (by kernel_rfl)) (by decide) (fun K hK=> ?_);refine goes_ Try.func61 (by kernel_rfl) rfl #[.int .i64 s.a,.int .i64 p1.f2,.int .i64 r.f2] (by rfl) rfl rfl (by(try simp only[List.map_toArray,List.map_cons,List.map_nil]);first|done|rfl) ?_;refine(add_any s.a p1.f2 r.f2 _).mono ?_;rintro e w4 ⟨rfl,hb4⟩;refine⟨_,rfl,?_⟩;have hb4' :Below wr.heap.size wr w4:=(below_drew (Below.refl wr.heap.size wr)).trans hb4;have HB4' :=Aside0.mk hb4';have hB4:=blk_below HL.out.hB hb4';have HB4:=Aside0.mk hB4;have hc4:=HC8.out _ hb4';have g3:=blk_frozen hB4 3;clear hb4 hb4' HC8 hB4;refine hK.out _ _ hc4 (fun hHeld=> ?_);clear hK K;refine norm_ (a' := ?_) ?_ ?_;rotate_left
    ·show Act.put _ (some 106) _=_;simp only[Act.put,List.setIfInBounds_toArray,List.set_cons_zero,List.set_cons_succ,i64_w,i32_w];rfl
    refine pure_ (i:=9) (N:=some 107) (v:= ?_) (a' := ?_) #[true,true,true,true,true,true,true,true,true,true,false] rfl rfl (any_of HT_.out (by kernel_rfl)) (fun _ _ _ h=>h) (Or.inl ⟨by rfl,?_⟩) ?_ ?_;rotate_left
    ·intro w';go_simp
     with_reducible rfl
    rotate_left
    ·simp only[Act.put,List.setIfInBounds_toArray,List.set_cons_zero,List.set_cons_succ,i64_w,i32_w];rfl
    refine last_ (i:=10) (N:=none) #[true,true,true,true,true,true,true,true,true,true,true] rfl rfl (one_of HT_.out (by kernel_rfl)) (by decide) (fun K hK=> ?_);refine skip_ (w1:=w4.setCell ⟨B,3,none⟩ (.int .i64 (aggAdd s.a p1.f2 r.f2))) (by rfl) rfl ?_ ?_
    ·go_simp
     first|done|rfl|simp[Result.andThen]
    refine hK.out _ _ ?_;clear hK K;refine done_ (done_of HT_.out (by kernel_rfl)) ?_;have HB5:=Aside0.mk (blk_set HB4.out 3 (.int .i64 (aggAdd s.a p1.f2 r.f2)));have HF5:=Aside0.mk (show Fr (fun k=>k=B) wr (w4.setCell ⟨B,3,none⟩ (.int .i64 (aggAdd s.a p1.f2 r.f2))) from((Fr.refl (fun k=>k=B) wr).below HB4'.out).setCell (p:=⟨B,3,none⟩) rfl _);clear hc4 g3 hHeld;generalize w4.setCell _ _=w5 at HB5 HF5 ⊢;have HS5:=Aside0.mk (HL.out.is.fr HF5.out (fun k hk hf=>by subst hk;exact HL.out.nB hf));have KL:=lay_calls HS5.out (by have:=HL.out.pot;have:=HN.out;omega) ⟨p1.f0,p1.f1,aggAdd s.a p1.f2 r.f2⟩ ⟨HL.out.p64.k,HL.out.p64.f,HL.out.p64.t,addA_in _ _ _ HL.out.p64.a HR.out.2⟩;have y0:=(blk_cell HB5.out 0).trans rfl;have y1:=(blk_cell HB5.out 1).trans rfl;have y2:=(blk_cell HB5.out 2).trans rfl;have y3:=(blk_cell HB5.out 3).trans rfl;go_wp2_with (go_at_call 45;refine KL.mono ?_;clear KL;rintro e w6 ⟨rfl,hto⟩)
    first|go_end0|((try simp only[Exit.inBlock,Exit.then]);refine bodyPost_ret (results_none rfl _ _ _) rfl ?_)
    have hBl:=lt_of_block HL.out.hB;have hs1:=HL.out.fr.size;have hs2:=HF5.out.size;have hs3:=hto.fr.size;refine⟨rfl,N1+1,layP ⟨p1.f0,p1.f1,aggAdd s.a p1.f2 r.f2⟩ l1,⟨hto.is.mono (fun k hk=> ?_) (fun k hk=> ?_) (Nat.le_refl _) hto.is.small,?_⟩,?_,?_⟩
    ·rcases hk with hk|hk
     ·rcases HL.out.old k hk with h|h
      ·exact Or.inl h
      ·have:=HL.out.is.bound k hk;exact Or.inr (by omega)
     ·exact Or.inr (by omega)
    ·rcases hk with hk|hk
     ·have:=HI.out.bound k hk;omega
     ·exact hk.2
    ·refine⟨hto.fr.os.trans (HF5.out.os.trans HL.out.fr.os),hto.fr.tape.trans (HF5.out.tape.trans HL.out.fr.tape),hto.fr.output.trans (HF5.out.output.trans HL.out.fr.output),by omega,fun k hk hn=> ?_⟩;refine(hto.fr.block k (by omega) (fun m=> ?_)).trans ((HF5.out.block k (by omega) (fun m=> ?_)).trans (HL.out.fr.block k hk hn))
     ·rcases HL.out.old k m with h|h
      ·exact hn h
      ·omega
     ·have:=HBs.out.1;omega
    ·have h1:=len_lay (⟨p1.f0,p1.f1,aggAdd s.a p1.f2 r.f2⟩:S70) l1;have:=HL.out.pot;omega
    ·unfold IntoS;rw[if_pos HK3.out,←HE0.out];exact⟨p1,l1,HL.out.md,HNO.out,rfl⟩
 ·have hk:(s.kind !=3)=true:=by simpa using hk3
  have HK3:=Aside0.mk hk3;have hp6:P64 (⟨r.f0,sp,aggZero s.a⟩:S70):=⟨HR.out.1,HSP.out.1,HSP.out.2,zeroA_in _⟩
  have hlook:=h6.look hp6;have hlook' :=(h6.below (below_drew (Below.refl _ _))).look hp6;rw[k98] at hlook hlook';have k0:=(blk_cell HPB.out 0).trans rfl;have k1:=(blk_cell HPB.out 1).trans rfl;have k2:=(blk_cell HPB.out 2).trans rfl;clear h6 hk3 c1 c2 c3 c5 c6 hp6;go_wp2_with fail;go_region;clear hlook hlook' k0 k1 k2 c0 c4;have HB7:=Aside0.mk (below_drew HB6.out);have HPB7:=Aside0.mk (blk_drew HPB.out);have HR7:=Aside0.mk (blk_drew HR6.out);clear HB6 HPB HR6 H6;generalize w6.drew=w7 at HB7 HPB7 HR7 ⊢;clear w6;obtain⟨acc,hacc⟩: ∃x,accP (⟨r.f0,sp,aggZero s.a⟩:S70) s.ps=x:=⟨_,rfl⟩
  have hain:I64 acc:=by rw[←hacc];exact accP_in HI.out.p64
  rw[hacc];cases hhas:hasP (⟨r.f0,sp,aggZero s.a⟩:S70) s.ps with
  | true=>
   have f3:=blk_frozen HPB7.out 3;have b3:=(blk_cell HPB7.out 3).trans rfl;have HB8:=Aside0.mk (HB7.out.setCell (p:=⟨B,3,none⟩) HBs.out.1 (.int .i64 acc));have HBB8:=Aside0.mk (blk_set HPB7.out 3 (.int .i64 acc));have HR8:=Aside0.mk (blk_far HR7.out (p:=⟨B,3,none⟩) (fun e=>HBs.out.2 e.symm) (.int .i64 acc));have HHAS:=Aside0.mk (show layP (⟨r.f0,sp,aggAdd s.a (if hasP (⟨r.f0,sp,aggZero s.a⟩:S70) s.ps=true then accP (⟨r.f0,sp,aggZero s.a⟩:S70) s.ps else aggZero s.a) r.f2⟩:S70) s.ps=layP (⟨r.f0,sp,aggAdd s.a acc r.f2⟩:S70) s.ps from by rw[hhas,if_pos rfl,hacc]);go_wp2_with fail;generalize w7.setCell _ _=w8 at HB8 HBB8 HR8 ⊢
   have HC8:=Aside0.mk (show ∀W,Below w8.heap.size w8 W→W.cell? ⟨q,3,none⟩=some (.int .i64 s.a)∧W.cell? ⟨B,3,none⟩=some (.int .i64 acc)∧W.cell? ⟨w.heap.size,2,none⟩=some (.int .i64 r.f2) from fun W hb=>by
    obtain⟨b1,b2,tv,tm,h8⟩:=HI.out.below (HB8.out.trans (hb.mono HB8.out.size));exact⟨h8.cells.2.2.2.1,(blk_cell (blk_below HBB8.out hb) 3).trans rfl,(blk_cell (blk_below HR8.out hb) 2).trans rfl⟩)
   have HP8:=Aside0.mk (show P64 (⟨r.f0,sp,acc⟩:S70) from⟨HR.out.1,HSP.out.1,HSP.out.2,hain⟩);go_wp2_with fail;refine start_ (n:=11) (S:=fun w'=>w'.cell? ⟨q,3,none⟩=some (.int .i64 s.a)∧w'.cell? ⟨B,3,none⟩=some (.int .i64 acc)∧w'.cell? ⟨w.heap.size,2,none⟩=some (.int .i64 r.f2)) (ds:=[10]) #[false,false,false,false,false,false,false,false,false,false,false] (by kernel_rfl) rfl rfl (HC8.out _ (below_drew (Below.refl _ _))) (fun hHeld=> ?_);refine with_tabW Tpi.tab6 Tpi.bits6 (fun HT_ HW_=> ?_);refine pure_ (i:=0) (N:=some 42) (v:= ?_) (a' := ?_) #[true,false,false,false,false,false,false,false,false,false,false] rfl rfl (any_of HT_.out (by kernel_rfl)) (fun _ _ _ h=>h) (Or.inl ⟨by rfl,?_⟩) ?_ ?_;rotate_left
   ·intro w';go_simp
    with_reducible rfl
   rotate_left
   ·simp only[Act.put,List.setIfInBounds_toArray,List.set_cons_zero,List.set_cons_succ,i64_w,i32_w];rfl
   refine pure_ (i:=1) (N:=some 43) (v:= ?_) (a' := ?_) #[true,true,false,false,false,false,false,false,false,false,false] rfl rfl (any_of HT_.out (by kernel_rfl)) (fun _ _ _ h=>h) (Or.inl ⟨by rfl,?_⟩) ?_ ?_;rotate_left
   ·intro w';go_simp
    with_reducible rfl
   rotate_left
   ·simp only[Act.put,List.setIfInBounds_toArray,List.set_cons_zero,List.set_cons_succ,i64_w,i32_w];rfl
   refine pure_ (i:=2) (N:=some 44) (v:= ?_) (a' := ?_) #[true,true,true,false,false,false,false,false,false,false,false] rfl rfl (any_of HT_.out (by kernel_rfl)) (fun _ _ _ h=>h) (Or.inl ⟨by rfl,?_⟩) ?_ ?_;rotate_left
   ·intro w';go_simp
    with_reducible rfl
   rotate_left
   ·simp only[Act.put,List.setIfInBounds_toArray,List.set_cons_zero,List.set_cons_succ,i64_w,i32_w];rfl
   refine take_ (i:=3) (N:=some 45) (v:= ?_) (a' := ?_) #[true,true,true,true,false,false,false,false,false,false,false] rfl rfl (take_ofW HT_.out HW_.out (by kernel_rfl)) (fun _ _ _ h=>h) (Or.inl ⟨by rfl,?_⟩) hHeld ?_ ?_;rotate_left
   ·rintro w' ⟨s0,s1,s2⟩;go_simp
    with_reducible rfl
   rotate_left
   ·simp only[Act.put,List.setIfInBounds_toArray,List.set_cons_zero,List.set_cons_succ,i64_w,i32_w];rfl
   refine pure_ (i:=4) (N:=some 46) (v:= ?_) (a' := ?_) #[true,true,true,true,true,false,false,false,false,false,false] rfl rfl (any_of HT_.out (by kernel_rfl)) (fun _ _ _ h=>h) (Or.inl ⟨by rfl,?_⟩) ?_ ?_;rotate_left
   ·intro w';go_simp
    with_reducible rfl
   rotate_left
   ·simp only[Act.put,List.setIfInBounds_toArray,List.set_cons_zero,List.set_cons_succ,i64_w,i32_w];rfl
   refine take_ (i:=5) (N:=some 47) (v:= ?_) (a' := ?_) #[true,true,true,true,true,true,false,false,false,false,false] rfl rfl (take_ofW HT_.out HW_.out (by kernel_rfl)) (fun _ _ _ h=>h) (Or.inl ⟨by rfl,?_⟩) hHeld ?_ ?_;rotate_left
   ·rintro w' ⟨s0,s1,s2⟩;go_simp
    with_reducible rfl
   rotate_left
   ·simp only[Act.put,List.setIfInBounds_toArray,List.set_cons_zero,List.set_cons_succ,i64_w,i32_w];rfl
   refine pure_ (i:=6) (N:=some 48) (v:= ?_) (a' := ?_) #[true,true,true,true,true,true,true,false,false,false,false] rfl rfl (any_of HT_.out (by kernel_rfl)) (fun _ _ _ h=>h) (Or.inl ⟨by rfl,?_⟩) ?_ ?_;rotate_left
   ·intro w';go_simp
    with_reducible rfl
   rotate_left
   ·simp only[Act.put,List.setIfInBounds_toArray,List.set_cons_zero,List.set_cons_succ,i64_w,i32_w];rfl
   refine take_ (i:=7) (N:=some 49) (v:= ?_) (a' := ?_) #[true,true,true,true,true,true,true,true,false,false,false] rfl rfl (take_ofW HT_.out HW_.out (by kernel_rfl)) (fun _ _ _ h=>h) (Or.inl ⟨by rfl,?_⟩) hHeld ?_ ?_;rotate_left
   ·rintro w' ⟨s0,s1,s2⟩;go_simp
    with_reducible rfl
   rotate_left
   ·simp only[Act.put,List.setIfInBounds_toArray,List.set_cons_zero,List.set_cons_succ,i64_w,i32_w];rfl
   refine one_ (i:=8) (N:=some 50) #[true,true,true,true,true,true,true,true,true,false,false] rfl rfl (one_of HT_.out (by kernel_rfl)) (by decide) (fun K hK=> ?_);refine goes_ Try.func61 (by kernel_rfl) rfl #[.int .i64 s.a,.int .i64 acc,.int .i64 r.f2] (by rfl) rfl rfl (by(try simp only[List.map_toArray,List.map_cons,List.map_nil]);first|done|rfl) ?_;refine(add_any s.a acc r.f2 _).mono ?_;rintro e w9 ⟨rfl,hb9⟩;refine⟨_,rfl,?_⟩;have HB9:=Aside0.mk (show Below w8.heap.size w8 w9 from(below_drew (Below.refl w8.heap.size w8)).trans hb9);have hc9:=HC8.out _ HB9.out;have hB9:=blk_below HBB8.out HB9.out;have f9:=blk_frozen hB9 3;clear hb9;refine hK.out _ _ hc9 (fun hHeld=> ?_);clear hK K;refine norm_ (a' := ?_) ?_ ?_;rotate_left
   ·show Act.put _ (some 50) _=_;simp only[Act.put,List.setIfInBounds_toArray,List.set_cons_zero,List.set_cons_succ,i64_w,i32_w];rfl
   refine pure_ (i:=9) (N:=some 51) (v:= ?_) (a' := ?_) #[true,true,true,true,true,true,true,true,true,true,false] rfl rfl (any_of HT_.out (by kernel_rfl)) (fun _ _ _ h=>h) (Or.inl ⟨by rfl,?_⟩) ?_ ?_;rotate_left
   ·intro w';go_simp
    with_reducible rfl
   rotate_left
   ·simp only[Act.put,List.setIfInBounds_toArray,List.set_cons_zero,List.set_cons_succ,i64_w,i32_w];rfl
   refine last_ (i:=10) (N:=none) #[true,true,true,true,true,true,true,true,true,true,true] rfl rfl (one_of HT_.out (by kernel_rfl)) (by decide) (fun K hK=> ?_);refine skip_ (w1:=w9.setCell ⟨B,3,none⟩ (.int .i64 (aggAdd s.a acc r.f2))) (by rfl) rfl ?_ ?_
   ·go_simp
    first|done|rfl|simp[Result.andThen]
   refine hK.out _ _ ?_;clear hK K;refine done_ (done_of HT_.out (by kernel_rfl)) ?_;have HB10:=Aside0.mk ((HB8.out.trans (HB9.out.mono HB8.out.size)).setCell (p:=⟨B,3,none⟩) HBs.out.1 (.int .i64 (aggAdd s.a acc r.f2)));have hB10:=blk_set hB9 3 (.int .i64 (aggAdd s.a acc r.f2));have a0:=(blk_cell hB10 0).trans rfl;have a1:=(blk_cell hB10 1).trans rfl;have a2:=(blk_cell hB10 2).trans rfl;have a3:=(blk_cell hB10 3).trans rfl;clear hB9 f9 hc9 hB10 hHeld;generalize w9.setCell _ _=w10 at HB10 a0 a1 a2 a3 ⊢;have KL:=lay_calls (HI.out.below HB10.out) (by have:=HN.out;omega) ⟨r.f0,sp,aggAdd s.a acc r.f2⟩ ⟨HR.out.1,HSP.out.1,HSP.out.2,addA_in _ _ _ HP8.out.a HR.out.2⟩;go_wp2_with (go_at_call 45;refine KL.mono ?_;clear KL;rintro e w11 ⟨rfl,hto⟩)
   (try simp only[Exit.inBlock,Exit.then]);refine bodyPost_ret (results_none rfl _ _ _) rfl ?_
   refine⟨rfl,_,_,To.below_ HB10.out hto,?_,?_⟩
   ·have h1:=len_lay (⟨r.f0,sp,aggAdd s.a acc r.f2⟩:S70) s.ps;show N+1+(layP (⟨r.f0,sp,aggAdd s.a acc r.f2⟩:S70) s.ps).length≤_;omega
   ·unfold IntoS;rw[if_neg HK3.out,HHAS.out]
  | false=>
   clear hacc hain;obtain⟨zac,hacc⟩: ∃x,aggZero s.a=x:=⟨_,rfl⟩
   have hain:I64 zac:=by rw[←hacc];exact zeroA_in _
   have HHAS:=Aside0.mk (show layP (⟨r.f0,sp,aggAdd s.a (if hasP (⟨r.f0,sp,aggZero s.a⟩:S70) s.ps=true then accP (⟨r.f0,sp,aggZero s.a⟩:S70) s.ps else aggZero s.a) r.f2⟩:S70) s.ps=layP (⟨r.f0,sp,aggAdd s.a zac r.f2⟩:S70) s.ps from by rw[hhas,if_neg (by decide),hacc]);rw[hacc] at HPB7;rw[hacc];have HB8:=HB7;have HBB8:=HPB7;have HR8:=HR7;clear HB7 HPB7 HR7 hhas;generalize w7=w8 at HB8 HBB8 HR8 ⊢
   have HC8:=Aside0.mk (show ∀W,Below w8.heap.size w8 W→W.cell? ⟨q,3,none⟩=some (.int .i64 s.a)∧W.cell? ⟨B,3,none⟩=some (.int .i64 zac)∧W.cell? ⟨w.heap.size,2,none⟩=some (.int .i64 r.f2) from fun W hb=>by
    obtain⟨b1,b2,tv,tm,h8⟩:=HI.out.below (HB8.out.trans (hb.mono HB8.out.size));exact⟨h8.cells.2.2.2.1,(blk_cell (blk_below HBB8.out hb) 3).trans rfl,(blk_cell (blk_below HR8.out hb) 2).trans rfl⟩)
   have HP8:=Aside0.mk (show P64 (⟨r.f0,sp,zac⟩:S70) from⟨HR.out.1,HSP.out.1,HSP.out.2,hain⟩);go_wp2_with fail;refine start_ (n:=11) (S:=fun w'=>w'.cell? ⟨q,3,none⟩=some (.int .i64 s.a)∧w'.cell? ⟨B,3,none⟩=some (.int .i64 zac)∧w'.cell? ⟨w.heap.size,2,none⟩=some (.int .i64 r.f2)) (ds:=[10]) #[false,false,false,false,false,false,false,false,false,false,false] (by kernel_rfl) rfl rfl (HC8.out _ (below_drew (Below.refl _ _))) (fun hHeld=> ?_);refine with_tabW Tpi.tab6 Tpi.bits6 (fun HT_ HW_=> ?_);refine pure_ (i:=0) (N:=some 42) (v:= ?_) (a' := ?_) #[true,false,false,false,false,false,false,false,false,false,false] rfl rfl (any_of HT_.out (by kernel_rfl)) (fun _ _ _ h=>h) (Or.inl ⟨by rfl,?_⟩) ?_ ?_;rotate_left
   ·intro w';go_simp
    with_reducible rfl
   rotate_left
   ·simp only[Act.put,List.setIfInBounds_toArray,List.set_cons_zero,List.set_cons_succ,i64_w,i32_w];rfl
   refine pure_ (i:=1) (N:=some 43) (v:= ?_) (a' := ?_) #[true,true,false,false,false,false,false,false,false,false,false] rfl rfl (any_of HT_.out (by kernel_rfl)) (fun _ _ _ h=>h) (Or.inl ⟨by rfl,?_⟩) ?_ ?_;rotate_left
   ·intro w';go_simp
    with_reducible rfl
   rotate_left
   ·simp only[Act.put,List.setIfInBounds_toArray,List.set_cons_zero,List.set_cons_succ,i64_w,i32_w];rfl
   refine pure_ (i:=2) (N:=some 44) (v:= ?_) (a' := ?_) #[true,true,true,false,false,false,false,false,false,false,false] rfl rfl (any_of HT_.out (by kernel_rfl)) (fun _ _ _ h=>h) (Or.inl ⟨by rfl,?_⟩) ?_ ?_;rotate_left
   ·intro w';go_simp
    with_reducible rfl
   rotate_left
   ·simp only[Act.put,List.setIfInBounds_toArray,List.set_cons_zero,List.set_cons_succ,i64_w,i32_w];rfl
   refine take_ (i:=3) (N:=some 45) (v:= ?_) (a' := ?_) #[true,true,true,true,false,false,false,false,false,false,false] rfl rfl (take_ofW HT_.out HW_.out (by kernel_rfl)) (fun _ _ _ h=>h) (Or.inl ⟨by rfl,?_⟩) hHeld ?_ ?_;rotate_left
   ·rintro w' ⟨s0,s1,s2⟩;go_simp
    with_reducible rfl
   rotate_left
   ·simp only[Act.put,List.setIfInBounds_toArray,List.set_cons_zero,List.set_cons_succ,i64_w,i32_w];rfl
   refine pure_ (i:=4) (N:=some 46) (v:= ?_) (a' := ?_) #[true,true,true,true,true,false,false,false,false,false,false] rfl rfl (any_of HT_.out (by kernel_rfl)) (fun _ _ _ h=>h) (Or.inl ⟨by rfl,?_⟩) ?_ ?_;rotate_left
   ·intro w';go_simp
    with_reducible rfl
   rotate_left
   ·simp only[Act.put,List.setIfInBounds_toArray,List.set_cons_zero,List.set_cons_succ,i64_w,i32_w];rfl
   refine take_ (i:=5) (N:=some 47) (v:= ?_) (a' := ?_) #[true,true,true,true,true,true,false,false,false,false,false] rfl rfl (take_ofW HT_.out HW_.out (by kernel_rfl)) (fun _ _ _ h=>h) (Or.inl ⟨by rfl,?_⟩) hHeld ?_ ?_;rotate_left
   ·rintro w' ⟨s0,s1,s2⟩;go_simp
    with_reducible rfl
   rotate_left
   ·simp only[Act.put,List.setIfInBounds_toArray,List.set_cons_zero,List.set_cons_succ,i64_w,i32_w];rfl
   refine pure_ (i:=6) (N:=some 48) (v:= ?_) (a' := ?_) #[true,true,true,true,true,true,true,false,false,false,false] rfl rfl (any_of HT_.out (by kernel_rfl)) (fun _ _ _ h=>h) (Or.inl ⟨by rfl,?_⟩) ?_ ?_;rotate_left
   ·intro w';go_simp
    with_reducible rfl
   rotate_left
   ·simp only[Act.put,List.setIfInBounds_toArray,List.set_cons_zero,List.set_cons_succ,i64_w,i32_w];rfl
   refine take_ (i:=7) (N:=some 49) (v:= ?_) (a' := ?_) #[true,true,true,true,true,true,true,true,false,false,false] rfl rfl (take_ofW HT_.out HW_.out (by kernel_rfl)) (fun _ _ _ h=>h) (Or.inl ⟨by rfl,?_⟩) hHeld ?_ ?_;rotate_left
   ·rintro w' ⟨s0,s1,s2⟩;go_simp
    with_reducible rfl
   rotate_left
   ·simp only[Act.put,List.setIfInBounds_toArray,List.set_cons_zero,List.set_cons_succ,i64_w,i32_w];rfl
   refine one_ (i:=8) (N:=some 50) #[true,true,true,true,true,true,true,true,true,false,false] rfl rfl (one_of HT_.out (by kernel_rfl)) (by decide) (fun K hK=> ?_);refine goes_ Try.func61 (by kernel_rfl) rfl #[.int .i64 s.a,.int .i64 zac,.int .i64 r.f2] (by rfl) rfl rfl (by(try simp only[List.map_toArray,List.map_cons,List.map_nil]);first|done|rfl) ?_;refine(add_any s.a zac r.f2 _).mono ?_;rintro e w9 ⟨rfl,hb9⟩;refine⟨_,rfl,?_⟩;have HB9:=Aside0.mk (show Below w8.heap.size w8 w9 from(below_drew (Below.refl w8.heap.size w8)).trans hb9);have hc9:=HC8.out _ HB9.out;have hB9:=blk_below HBB8.out HB9.out;have f9:=blk_frozen hB9 3;clear hb9;refine hK.out _ _ hc9 (fun hHeld=> ?_);clear hK K;refine norm_ (a' := ?_) ?_ ?_;rotate_left
   ·show Act.put _ (some 50) _=_;simp only[Act.put,List.setIfInBounds_toArray,List.set_cons_zero,List.set_cons_succ,i64_w,i32_w];rfl
   refine pure_ (i:=9) (N:=some 51) (v:= ?_) (a' := ?_) #[true,true,true,true,true,true,true,true,true,true,false] rfl rfl (any_of HT_.out (by kernel_rfl)) (fun _ _ _ h=>h) (Or.inl ⟨by rfl,?_⟩) ?_ ?_;rotate_left
   ·intro w';go_simp
    with_reducible rfl
   rotate_left
   ·simp only[Act.put,List.setIfInBounds_toArray,List.set_cons_zero,List.set_cons_succ,i64_w,i32_w];rfl
   refine last_ (i:=10) (N:=none) #[true,true,true,true,true,true,true,true,true,true,true] rfl rfl (one_of HT_.out (by kernel_rfl)) (by decide) (fun K hK=> ?_);refine skip_ (w1:=w9.setCell ⟨B,3,none⟩ (.int .i64 (aggAdd s.a zac r.f2))) (by rfl) rfl ?_ ?_
   ·go_simp
    first|done|rfl|simp[Result.andThen]
   refine hK.out _ _ ?_;clear hK K;refine done_ (done_of HT_.out (by kernel_rfl)) ?_;have HB10:=Aside0.mk ((HB8.out.trans (HB9.out.mono HB8.out.size)).setCell (p:=⟨B,3,none⟩) HBs.out.1 (.int .i64 (aggAdd s.a zac r.f2)));have hB10:=blk_set hB9 3 (.int .i64 (aggAdd s.a zac r.f2));have a0:=(blk_cell hB10 0).trans rfl;have a1:=(blk_cell hB10 1).trans rfl;have a2:=(blk_cell hB10 2).trans rfl;have a3:=(blk_cell hB10 3).trans rfl;clear hB9 f9 hc9 hB10 hHeld;generalize w9.setCell _ _=w10 at HB10 a0 a1 a2 a3 ⊢;have KL:=lay_calls (HI.out.below HB10.out) (by have:=HN.out;omega) ⟨r.f0,sp,aggAdd s.a zac r.f2⟩ ⟨HR.out.1,HSP.out.1,HSP.out.2,addA_in _ _ _ HP8.out.a HR.out.2⟩;go_wp2_with (go_at_call 45;refine KL.mono ?_;clear KL;rintro e w11 ⟨rfl,hto⟩)
   (try simp only[Exit.inBlock,Exit.then]);refine bodyPost_ret (results_none rfl _ _ _) rfl ?_
   refine⟨rfl,_,_,To.below_ HB10.out hto,?_,?_⟩
   ·have h1:=len_lay (⟨r.f0,sp,aggAdd s.a zac r.f2⟩:S70) s.ps;show N+1+(layP (⟨r.f0,sp,aggAdd s.a zac r.f2⟩:S70) s.ps).length≤_;omega
   ·unfold IntoS;rw[if_neg HK3.out,HHAS.out]
end Go.Proofs.Ytjegeghigfmkoaa.T
namespace Go.Proofs.Ytjegeghigfmkoaa.T
open Go.RowKit Go.Maps Go.Sort Go.Proofs.Ytjegeghigfmkoaa Go.Proofs.Ytjegeghigfmkoaa.X Go.Proofs.YtjegeghigfmkoaaW.PrintWords Go.Proofs.YtjegeghigfmkoaaW.PrintLast Go.Proofs.YtjegeghigfmkoaaW.PrintMore
set_option linter.unusedVariables false
set_option linter.unusedSimpArgs false
set_option maxRecDepth 100000
variable {F:Nat→Prop} {N:Nat} {w w' :World} {q b1 b2:Nat} {tv:Value} {tm:List Int} {s:St}
inductive Puts (kind a key val:Int) (ps:List S70):List S68→List S70→Prop
 |nil:Puts kind a key val ps [] ps
 |snoc {sps:List S68} {sp:S68} {ps1 ps2:List S70} (h:Puts kind a key val ps sps ps1) (k:IntoS kind a key val sp ps1 ps2):Puts kind a key val ps (sps++[sp]) ps2
structure Lq (F:Nat→Prop) (N:Nat) (w w1:World) (q:Nat) (v:Value) (s:St) (r:S39) (sp:List S68) (i:Nat) (wr:World) (F1:Nat→Prop) (N1:Nat) (ps1:List S70):Prop where
 is:IsS F1 N1 wr q {s with ps:=ps1}
 fr:Fr F w1 wr
 old: ∀k,F1 k→F k∨w1.heap.size≤k
 row:Kd.R k68 68 wr w.heap.size (fun k=>w.heap.size≤k∧k<w1.heap.size) v sp
 hR:wr.heap[w.heap.size]? =some (.cells #[.int .i64 r.f0,.int .i64 r.f1,.int .i64 r.f2] 39 (0,0))
 puts:Puts s.kind s.a r.f0 r.f2 s.ps (sp.take i) ps1
 pot:N1+ps1.length≤N+s.ps.length+2*i
set_option maxHeartbeats 4000000 in
theorem Put_calls (h:IsS F N w q s) (r:S39) (hr:I64 r.f0∧I64 r.f2) (sp:List S68) (hsp:SpS s.kind s.size s.slide r.f1 sp) (h64: ∀x ∈ sp,I64 x.f0∧I64 x.f1) (hl:sp.length≤64) (hN:N+s.ps.length+128≤1000000):
  Calls Try.prog 15 #[.pointer (some ⟨q,0,none⟩),aggR r] w fun e w'=>e= .returned (.tuple #[])∧ ∃N' ps',To F w w' N' q {s with ps:=ps'}∧N'+ps'.length≤N+s.ps.length+2*sp.length∧Puts s.kind s.a r.f0 r.f2 s.ps sp ps' :=by
 have HI:=Aside0.mk h;have HN:=Aside0.mk hN;have HR:=Aside0.mk hr;have H64:=Aside0.mk h64;have HL:=Aside0.mk hl;have hba:=(Below.refl w.heap.size w).alloc (Nat.le_refl _) (.cells #[.int .i64 r.f0,.int .i64 r.f1,.int .i64 r.f2] 39);have HRB:=Aside0.mk (heap_alloc_new w (.cells #[.int .i64 r.f0,.int .i64 r.f1,.int .i64 r.f2] 39));have KS:=Spans_calls (h.below hba) r.f1 sp hsp;have HBA:=Aside0.mk hba;clear h hN hr h64 hsp hl hba;go_enter Try.func15,Try.ntmps15;go_wp2_with (go_at_call 35;refine KS.mono ?_;clear KS;rintro e w1 ⟨v,rfl,hR,hb⟩;have HBB:=Aside0.mk hb;have HRR:=Aside0.mk hR;obtain⟨A,c,rfl⟩:=Kd.R_slice hR;clear hR hb)
 have HLQ:Aside0 (Lq F N w w1 q (.slice A sp.length c) s r sp 0 w1 F N s.ps):=⟨by
  have hbb:=HBA.out.trans (HBB.out.mono HBA.out.size);refine⟨HI.out.below hbb,Fr.refl F w1,fun k hk=>Or.inl hk,?_,blk_below HRB.out HBB.out,by simpa using Puts.nil,by omega⟩;have:=Kd.R_lower HRR.out HBA.out.size;exact Kd.R_mono (Kd.R_bound this) (fun k hk=>⟨hk.2.1,hk.2.2.1⟩)⟩
 have HW1:Aside0 (Below w.heap.size w w1∧w.heap.size<w1.heap.size):=⟨HBA.out.trans (HBB.out.mono HBA.out.size),lt_of_block (blk_below HRB.out HBB.out)⟩
 clear HRR HRB HBA HBB;go_loopg [11] sp.length (fun kx s11 wr=> ∃(i:Nat) (F1:Nat→Prop) (N1:Nat) (ps1:List S70),s11= .int .i64 i∧sp.length-i≤kx∧i≤sp.length∧Aside0 (Lq F N w w1 q (.slice A sp.length c) s r sp i wr F1 N1 ps1))
 case atStart=>exact⟨0,F,N,s.ps,rfl,by omega,by omega,HLQ⟩
 case round=>
  clear HLQ;obtain⟨i,F1,N1,ps1,rfl,hkx,hi,HQ⟩:=hrel;by_cases hlt:i<sp.length
  ·have hlz:((i:Int)<(sp.length:Int)):=by omega
   have hiz:(0:Int)≤(i:Int):=by omega
   obtain⟨_,hcc,hC⟩:=Kd.R_reads' HQ.out.row;obtain⟨ad,rfl,x0,x1⟩:=at_T68 hC (i:Int) hiz hlz;obtain⟨z,hz⟩: ∃z:S68,sp[i]=z:=⟨_,rfl⟩
   have hgd:rd_T68 sp (i:Int)=z:=by rw[←hz];simp[rd_T68,hlt]
   rw[hgd] at x0 x1;have HZ:Aside0 (sp.take (i+1)=sp.take i++[z]):=⟨by rw[←hz];exact(List.take_append_getElem hlt).symm⟩
   have hzm:z ∈ sp:=by rw[←hz];exact List.getElem_mem hlt
   have hin:((i:Int)).toNat=i:=by omega
   rw[hin] at x0 x1;have hwi:wrap64 ((i:Int)+1)=((i+1:Nat):Int):=by have:=HL.out;unfold wrap64;omega
   have hbb:=(Below.refl wr.heap.size wr).alloc (Nat.le_refl _) (.cells #[.int .i64 z.f0,.int .i64 z.f1] 68);have hR2:=blk_below HQ.out.hR hbb;have r0:=(blk_cell hR2 0).trans rfl;have r1:=(blk_cell hR2 1).trans rfl;have r2:=(blk_cell hR2 2).trans rfl;have KP:=PutInto_calls (HQ.out.is.below hbb) (by have:=HQ.out.pot;have:=HN.out;have:=HL.out;show N1+ps1.length+2≤_;omega) r z HR.out (H64.out _ hzm);have HBB:=Aside0.mk hbb;have HR2:=Aside0.mk hR2;have HLT:=Aside0.mk hlt;have HI1:=Aside0.mk (And.intro hkx hi);clear hbb hR2 hC hgd hlt hkx hi hzm hz;go_wp2_with (go_at_call 36;refine KP.mono ?_;clear KP;rintro e w3 ⟨rfl,N2,ps2,hto,hpot,hint⟩;have HTO:=Aside0.mk hto;have HPI:=Aside0.mk (And.intro hpot hint);clear hto hpot hint);rw[hwi];go_roundg (sp.length- (i+1))
   case measure=>have:=HI1.out;have:=HLT.out;omega
   case rel=>
    have s1:=HBB.out.size;have s2:=HTO.out.fr.size;have s3:=HQ.out.fr.size;have hw1:=HW1.out.2;have hRl:=lt_of_block HQ.out.hR;have fr2:Fr F1 wr w3:=⟨HTO.out.fr.os.trans HBB.out.os,HTO.out.fr.tape.trans HBB.out.tape,HTO.out.fr.output.trans HBB.out.output,by omega,fun k hk hn=>(HTO.out.fr.block k (by omega) hn).trans (HBB.out.block k hk)⟩
    refine⟨i+1,Fx F1 (wr.alloc (.cells #[.int .i64 z.f0,.int .i64 z.f1] 68)) w3,N2,ps2,rfl,Nat.le_refl _,by have:=HLT.out;omega,⟨⟨HTO.out.is,HQ.out.fr.mix HQ.out.old fr2 (Fr.refl (fun _=>False) w3) (fun _ h=>h.elim),fun k hk=> ?_,?_,?_,?_,?_⟩⟩⟩
    ·rcases hk with hk|hk
     ·exact HQ.out.old k hk
     ·exact Or.inr (by omega)
    ·refine Kd.R_step HQ.out.row (fun k hk hlt=>fr2.block k hlt (fun m=> ?_));rcases HQ.out.old k m with h|h
     ·have:=HI.out.bound k h;omega
     ·omega
    ·refine(fr2.block _ hRl (fun m=> ?_)).trans HQ.out.hR;rcases HQ.out.old _ m with h|h
     ·have:=HI.out.bound _ h;omega
     ·omega
    ·rw[HZ.out];exact .snoc HQ.out.puts HPI.out.2
    ·have h1:=HQ.out.pot;have h2:N2+ps2.length≤N1+ps1.length+2:=HPI.out.1;omega
  ·have hlz: ¬((i:Int)<(sp.length:Int)):=by omega
   have HI1:=Aside0.mk (show i=sp.length from by omega);clear hlt hkx hi;go_wp2
   first|go_end0|((try simp only[Exit.inBlock,Exit.then]);refine bodyPost_ret (results_none rfl _ _ _) rfl ?_)
   have hi:=HI1.out;have s1:=HW1.out.1.size;have s3:=HQ.out.fr.size;have hp:=HQ.out.puts;rw[hi,List.take_length] at hp;refine⟨rfl,N1,ps1,⟨HQ.out.is.mono (fun k hk=> ?_) (fun k hk=> ?_) (Nat.le_refl _) HQ.out.is.small,((Fr.refl F w).below HW1.out.1).trans HQ.out.fr⟩,by rw[←hi];exact HQ.out.pot,hp⟩
   ·rcases HQ.out.old k hk with h|h
    ·exact Or.inl h
    ·exact Or.inr ⟨by omega,HQ.out.is.bound k hk⟩
   ·rcases hk with h|h
    ·have:=HI.out.bound k h;omega
    ·exact h.2
end Go.Proofs.Ytjegeghigfmkoaa.T
namespace Go.Proofs.Ytjegeghigfmkoaa.T
open Go.RowKit Go.Maps Go.Sort Go.Proofs.Ytjegeghigfmkoaa Go.Proofs.Ytjegeghigfmkoaa.X Go.Proofs.YtjegeghigfmkoaaW.PrintWords Go.Proofs.YtjegeghigfmkoaaW.PrintLast Go.Proofs.YtjegeghigfmkoaaW.PrintMore
set_option linter.unusedVariables false
set_option linter.unusedSimpArgs false
set_option maxRecDepth 100000
variable {F:Nat→Prop} {N:Nat} {w w' :World} {q b1 b2:Nat} {v:Value} {tm:List Int} {s:St}
def NextIs (ps:List S70) (t:Int) (b:Bool):Prop:=(b=false∧t=0∧ps=[])∨(b=true∧(∃p ∈ ps,lastP p=t)∧ ∀p ∈ ps,t≤lastP p)
theorem IsT.popped {w2:World} {g n c:Nat} {tm' :List Int} (h:IsT F N w q b1 b2 (tv g (n+1) c) tm s) (hn:tm.length=n+1) (h0: ∀p ∈ s.ps,lastP p≠tm.toArray[0]!)
  (hq:w2.heap[q]? =some (.cells #[.int .i64 s.kind,.int .i64 s.size,.int .i64 s.slide,.int .i64 s.a,.map (some b1),tv g n c,.map (some b2)] 87 (0,0))) (hl:tm'.length=n) (ho:w2.ownsRow 0 2 1 (tv g n c) n (nums .i64 tm')) (hh:Hp n tm'.toArray) (hp:tm.Perm (tm.toArray[0]! ::tm')) (hf:Fr (fun k=>k=q∨k=g) w w2):
  IsT F N w2 q b1 b2 (tv g n c) tm' s∧Fr F w w2:=by
 obtain⟨D1,m1,a1⟩:=h.all;obtain⟨D2,m2,a2⟩:=h.ends;have hg:=h.tne1 g rfl;have fr:Fr F w w2:=hf.mono (fun k hk m=>by rcases m with rfl|rfl;exact h.fq;exact h.ft _ rfl);refine⟨⟨hq,⟨D1,map_fr m1 hf (fun e=>by rcases e with e|e;exact h.qne1 e.symm;exact hg.1 e.symm),a1⟩,⟨D2,map_fr m2 hf (fun e=>by rcases e with e|e;exact h.qne2 e.symm;exact hg.2.1 e.symm),a2⟩,by rw[hl];exact ho,by rw[hl];exact hh,by have:=h.tmN;omega,fun p hp'=> ?_,fun x hx=>h.tm64 x ?_,h.fq,h.f1,h.f2,fun k hk=>h.ft k hk,h.ne,h.apart,h.p64,h.small,fun k hk=>Nat.lt_of_lt_of_le (h.bound k hk) hf.size,h.len⟩,fr⟩
 ·have:=h.last p hp';rw[hp.mem_iff] at this;rcases List.mem_cons.1 this with e|e
  ·exact absurd e (h0 p hp')
  ·exact e
 ·rw[hp.mem_iff];exact List.mem_cons_of_mem _ hx
set_option maxHeartbeats 4000000 in
theorem Next_calls (h:IsS F N w q s):Calls Try.prog 29 #[.pointer (some ⟨q,0,none⟩)] w fun e w'=> ∃t b,e= .returned (.tuple #[.int .i64 t,.bool b])∧NextIs s.ps t b∧To F w w' N q s:=by
 obtain⟨b1,b2,v,tm,h⟩:=h;have H:=Aside0.mk h;have HBd:=Aside0.mk h.bound;clear h;go_enter Try.func29,Try.ntmps29;go_wp2;go_loopg [] tm.length (fun kx wr=> ∃(v:Value) (tm:List Int),tm.length≤kx∧Aside0 (IsT F N wr q b1 b2 v tm s∧Fr F w wr))
 case atStart=>exact⟨v,tm,Nat.le_refl _,⟨H.out,Fr.refl _ _⟩⟩
 case round=>
  obtain⟨v,tm,hkx,HT⟩:=hrel;have h:=HT.out.1;obtain⟨c0,c1,c2,c3,c4,c5,c6⟩:=h.cells;have hl:=h.tmlen;rcases Nat.eq_zero_or_pos tm.length with h0|h0
  ·obtain⟨A,c,rfl⟩:=h.slice;rw[h0] at c5
   have HE:Aside0 (s.ps=[]):=⟨by
    cases hps:s.ps with
    |nil=>rfl
    |cons p r=>
     have:=h.last p (by rw[hps];exact List.mem_cons_self ..);rw[List.eq_nil_of_length_eq_zero h0] at this;cases this⟩
   clear h c0 c1 c2 c3 c4 c6 hl h0 hkx;go_wp2;go_ret2;exact⟨_,_,rfl,Or.inl ⟨rfl,rfl,HE.out⟩,⟨⟨b1,b2,_,tm,HT.out.1.mono (fun k hk=>Or.inl hk) (Fx.bound HBd.out HT.out.2.size) (Nat.le_refl _) HT.out.1.small⟩,HT.out.2⟩⟩
  ·obtain⟨n,hn⟩: ∃n,tm.length=n+1:=⟨tm.length-1,by omega⟩
   obtain⟨g,c,rfl⟩: ∃g c,v=tv g (n+1) c:=by
    obtain⟨_,⟨_,e⟩|⟨g,cap,cur,e,_⟩⟩:=h.tms
    ·omega
    ·exact⟨g,cap,by rw[e,hn]⟩
   have hrow:=h.tms;have hro:=hrow;rw[hn] at hrow;have hhd:=(row_holds (by have:=hro;rw[←hn] at this;exact this) 0 (by simp;omega)).1;obtain⟨x,hx⟩: ∃x,tm.toArray[0]! =x:=⟨_,rfl⟩
   rw[hx,Nat.zero_add] at hhd
   have hxm:x ∈ tm:=by
    rw[←hx,get_list tm (by omega)];exact List.getElem_mem _
   have hx64:=h.tm64 x hxm;have hend:=h.end_ hx64;have hend' :=(h.below (below_drew (Below.refl _ _))).end_ hx64
   have hmin: ∀y ∈ tm,x≤y:=fun y hy=>by
    obtain⟨i,hi,rfl⟩:=List.getElem_of_mem hy;have:=hp_root h.heap i (by omega);rw[hx,get_list tm hi] at this;exact this
   have HM:=Aside0.mk hmin;have HX:=Aside0.mk hx;have hn1:(n:Int)+1>0:=by omega
   by_cases hc:0<cnt x s.ps
   ·have hcz:decide ((0:Int)<(cnt x s.ps:Int))=true:=decide_eq_true (by omega);have hczn:decide (0<cnt x s.ps)=true:=decide_eq_true hc;have HC:=Aside0.mk hc;clear h c0 c1 c2 c3 c4 hrow hro hxm hx64 hmin hx hn hkx hl h0;go_wp2_with fail;go_region;go_wp2;go_ret2;have hfr:=HT.out.2;refine⟨_,_,rfl,Or.inr ⟨rfl,cnt_pos.1 HC.out,fun p hp=>HM.out _ (HT.out.1.last p hp)⟩,⟨⟨b1,b2,_,tm,(HT.out.1.below (below_drew (Below.refl _ _))).mono (fun k hk=>Or.inl hk) (Fx.bound HBd.out hfr.size) (Nat.le_refl _) HT.out.1.small⟩,hfr.drew⟩⟩
   ·have hcz:decide ((0:Int)<(cnt x s.ps:Int))=false:=decide_eq_false (by omega);have hczn:decide (0<cnt x s.ps)=false:=decide_eq_false hc;have hc0:cnt x s.ps=0:=by omega
    have HNO:Aside0 (∀p ∈ s.ps,lastP p≠tm.toArray[0]!):=⟨fun p hp e=>by
     rw[HX.out] at e;have:=cnt_pos.2 ⟨p,hp,e⟩;omega⟩
    have KP:=hPop_calls (blk_drew h.at_) (tm:=tm) (g:=g) (c:=c) (n:=n) rfl rfl hn (by rw[hn] at hro;exact hro) (by have:=h.heap;rwa [hn] at this) (by omega);have HN:=Aside0.mk hn;have HK:=Aside0.mk hkx;clear h c0 c1 c2 c3 c4 hrow hro hxm hx64 hmin hx hn hkx hl h0 hc hc0;go_wp2_with fail;go_region;go_wp2_with (go_at_call 53;(refine KP.mono ?_;clear KP;rintro e w2 ⟨⟨y,rfl⟩,tm',h1,h2,h3,h4,h5,h6⟩;have HP:=Aside0.mk (HT.out.1.popped HN.out HNO.out h1 h2 h3 h4 h5 (Fr.undrew h6));have HL:=Aside0.mk h2;clear h1 h2 h3 h4 h5 h6));go_roundg n
    case measure=>have:=HN.out;have:=HK.out;omega
    case rel=>exact⟨_,tm',by have:=HL.out;omega,⟨HP.out.1,HT.out.2.trans HP.out.2⟩⟩
end Go.Proofs.Ytjegeghigfmkoaa.T
namespace Go.Proofs.Ytjegeghigfmkoaa.T
open Go.RowKit Go.Sort Go.Proofs.YtjegeghigfmkoaaW.PrintWords Go.Proofs.YtjegeghigfmkoaaW.PrintMore Go.Proofs.Ytjegeghigfmkoaa Go.Proofs.Ytjegeghigfmkoaa.So Go.Proofs.Ytjegeghigfmkoaa.X Go.Proofs.Ytjegeghigfmkoaa.Nf Go.Proofs.Ytjegeghigfmkoaa.Th
set_option linter.unusedVariables false
set_option linter.unusedSimpArgs false
def Prp (p:S70):Prop:=p.f1.f0<p.f1.f1
theorem perm_out: ∀{l:List S70} {x:S70},Apart l→x ∈ l→l.Perm (x::outP x l)
 | y ::l,x,h,hx=>by
  have h2:=List.pairwise_cons.1 h;by_cases hs:same x y=true
  ·have hxy:x=y:=by
    rcases List.mem_cons.1 hx with e|hx
    ·exact e
    ·have:=h2.1 x hx;have h3:=(same_iff _ _).1 hs;have h4:same y x=true:=(same_iff _ _).2 ⟨h3.1.symm,h3.2.symm⟩;rw[h4] at this;cases this
   subst hxy
   have e:outP x (x::l)=l:=by
    unfold outP;rw[List.filter_cons_of_neg (by rw[hs];decide)];rw[List.filter_eq_self];intro z hz;rw[h2.1 z hz];rfl
   rw[e]
  ·have hxl:x ∈ l:=by
    rcases List.mem_cons.1 hx with e|hx
    ·exact absurd (by rw[e];exact same_refl y) hs
    ·exact hx
   have e:outP x (y::l)=y::outP x l:=by
    unfold outP;rw[List.filter_cons_of_pos (by simpa using hs)]
   rw[e];exact((perm_out h2.2 hxl).cons y).trans (.swap _ _ _)
theorem out_none {l:List S70} {x:S70} (h: ∀y ∈ l,same x y=false):outP x l=l:=by
 unfold outP;rw[List.filter_eq_self];intro z hz;rw[h z hz];rfl
theorem hit_iff (p x:S70):Hit p x↔hitK 3 p x:=by
 unfold hitK Hit hitP;rw[if_pos rfl];simp
theorem mgd_rs {a:Int} (ha:aggOk a=true) (v:Int) {p p1:S70} {l l1:List S70} (h:Mgd a p l p1 l1) (hap:Apart l):Apart l1∧l1.Sublist l∧RSk 3 a (addv a v p::l) (addv a v p1::l1):=by
 induction h with
 |done=>exact⟨hap,List.Sublist.refl _,.done (.refl _)⟩
 | @step p1 l1 x h hx hh ih=>
  obtain⟨i1,i2,i3⟩:=ih;refine⟨List.Pairwise.sublist List.filter_sublist i1,List.filter_sublist.trans i2,RS.trans i3 (.step (.mk (r:=outP x l1) (x:=addv a v p1) (y:=x) ((perm_out i1 hx).cons _) ((hit_iff _ _).1 hh) ?_) (.done (.refl _)))⟩;rw[join_addv ha]
theorem mgd_prp {a:Int} {p p1:S70} {l l1:List S70} (h:Mgd a p l p1 l1) (hp:Prp p):Prp p1:=by
 induction h with
 |done=>exact hp
 | @step p1 l1 x h hx hh ih=>
  have:=hh.2;unfold Prp at*
  show mn p1.f1.f0 x.f1.f0<mx p1.f1.f1 x.f1.f1;unfold mn mx at*
  split<;>split<;>(try split at this)<;>omega
theorem same_hit {p x:S70} (hp:Prp p) (h:same p x=true):Hit p x:=by
 obtain⟨h1,h2⟩:=(same_iff _ _).1 h;refine⟨h1,?_⟩;rw[h2];unfold Prp at hp;unfold mx mn;split<;>split<;>omega
theorem into_rs {kind a:Int} (ha:aggOk a=true) {key val:Int} (hv:Go.Proofs.Ytjegeghigfmkoaa.I64 val) {sp:S68} (hsp:sp.f0<sp.f1) {ps ps' :List S70} (hap:Apart ps) (hN:NK kind ps) (hP: ∀p ∈ ps,Prp p) (h:IntoS kind a key val sp ps ps'):
  RSk kind a (one a key val sp::ps) ps'∧NK kind ps'∧ ∀p ∈ ps',Prp p:=by
 unfold IntoS at h;by_cases hk:kind=3
 ·subst hk;rw[if_pos rfl] at h;obtain⟨p',rest,hm,hno,rfl⟩:=h;obtain⟨r1,r2,r3⟩:=mgd_rs ha (aggVal a val) hm hap;have hp' :=mgd_prp hm (show Prp ⟨key,sp,aggZero a⟩ from hsp)
  have e1:(⟨p'.f0,p'.f1,aggAdd a p'.f2 val⟩:S70)=addv a (aggVal a val) p' :=by
   unfold addv;rw[add_eq ha]
  have e2:outP (addv a (aggVal a val) p') rest=rest:=out_none (fun y hy=>by
   cases hs:same (addv a (aggVal a val) p') y with
   |false=>rfl
   |true=>exact absurd (same_hit (show Prp (addv a (aggVal a val) p') from hp') hs) (hno y hy))
  rw[e1];unfold layP;rw[e2,one_addv ha];refine⟨r3,List.pairwise_cons.2 ⟨fun y hy hh=>hno y hy ((hit_iff _ _).2 hh),List.Pairwise.sublist r2 hN⟩,fun p hp=> ?_⟩;rcases List.mem_cons.1 hp with rfl|hp
  ·exact hp'
  ·exact hP p (r2.subset hp)
 ·rw [if_neg hk] at h;subst h;cases hh:hasP ⟨key,sp,aggZero a⟩ ps with
  | false=>
   rw[if_neg (by decide)]
   have hno: ∀y ∈ ps,same ⟨key,sp,aggZero a⟩ y=false:=fun y hy=>by
    cases hs:same ⟨key,sp,aggZero a⟩ y with
    |false=>rfl
    |true=>rw[show hasP ⟨key,sp,aggZero a⟩ ps=true from List.any_eq_true.2 ⟨y,hy,hs⟩] at hh;cases hh
   have e:layP ⟨key,sp,aggAdd a (aggZero a) val⟩ ps=one a key val sp::ps:=by
    unfold layP;rw[out_none (x:=⟨key,sp,aggAdd a (aggZero a) val⟩) (fun y hy=>hno y hy)];rfl
   rw[e];refine⟨.done (.refl _),List.pairwise_cons.2 ⟨fun y hy h2=> ?_,hN⟩,fun p hp=> ?_⟩
   ·have h3:=hno y hy;unfold hitK at h2;rw[if_neg hk,sameP_iff] at h2
    have:same ⟨key,sp,aggZero a⟩ y=true:=by
     unfold same;simp only[Bool.and_eq_true,beq_iff_eq];exact⟨⟨h2.1,h2.2.1⟩,h2.2.2⟩
    rw[this] at h3;cases h3
   ·rcases List.mem_cons.1 hp with rfl|hp
    ·exact hsp
    ·exact hP p hp
  | true=>
   rw[if_pos rfl]
   obtain⟨x,hx,hs,hacc⟩: ∃x ∈ ps,same ⟨key,sp,aggZero a⟩ x=true∧accP ⟨key,sp,aggZero a⟩ ps=x.f2:=by
    unfold accP;split
    ·rename_i x hx;exact⟨x,List.mem_of_find?_eq_some hx,List.find?_some hx,rfl⟩
    ·rename_i hn;obtain⟨y,hy,hs⟩:=List.any_eq_true.1 hh;have:=List.find?_eq_none.1 hn y hy;exact absurd hs this
   obtain⟨s1,s2⟩:=(same_iff _ _).1 hs;rw[hacc];have s1:x.f0=key:=s1;have s2:x.f1=sp:=s2;have hv2:=val_in a hv
   have hm:aggMerge a (aggAdd a (aggZero a) val) x.f2=aggAdd a x.f2 val:=by
    rw[merge_both ha,add_eq ha,add_eq ha,both_comm a (aggZero a),both_zero ha hv2,both_comm]
   have e:layP ⟨key,sp,aggAdd a x.f2 val⟩ ps=joinP a (one a key val sp) x::outP x ps:=by
    have e1:outP (⟨key,sp,aggAdd a x.f2 val⟩:S70) ps=outP x ps:=by
     unfold outP same;rw[s1,s2]
    have e2:joinP a (one a key val sp) x=⟨key,sp,aggAdd a x.f2 val⟩:=by
     refine S70_ext rfl ?_ ?_ hm
     ·show mn sp.f0 x.f1.f0=sp.f0;rw[s2];unfold mn;split<;>omega
     ·show mx sp.f1 x.f1.f1=sp.f1;rw[s2];unfold mx;split<;>omega
    unfold layP;rw[e1,e2]
   rw[e];have hp:=perm_out hap hx;have hN2:=Normal.perm (mgK kind ha) hN hp
   have hhit:hitK kind (one a key val sp) x:=by
    unfold hitK;rw[if_neg hk,sameP_iff];exact⟨s1,by rw[s2];rfl,by rw[s2];rfl⟩
   refine⟨.step (.mk (r:=outP x ps) (x:=one a key val sp) (y:=x) (hp.cons _) hhit (.refl _)) (.done (.refl _)),List.pairwise_cons.2 ⟨fun y hy h2=> ?_,(List.pairwise_cons.1 hN2).2⟩,fun p hp2=> ?_⟩
   ·apply(List.pairwise_cons.1 hN2).1 y hy;unfold hitK at*
    rw[if_neg hk,sameP_iff] at*
    have j0:(joinP a (one a key val sp) x).f0=key:=rfl
    have j1:(joinP a (one a key val sp) x).f1=sp:=by
     show(⟨mn sp.f0 x.f1.f0,mx sp.f1 x.f1.f1⟩:S68)=sp;rw[s2];have a1:mn sp.f0 sp.f0=sp.f0:=by unfold mn;split<;>omega
     have a2:mx sp.f1 sp.f1=sp.f1:=by unfold mx;split<;>omega
     rw[a1,a2]
    rw[j0,j1] at h2;rw[s1,s2];exact h2
   ·rcases List.mem_cons.1 hp2 with rfl|hp2
    ·show mn sp.f0 x.f1.f0<mx sp.f1 x.f1.f1;rw[s2];unfold mn mx;split<;>split<;>omega
    ·exact hP p ((mem_outP.1 hp2).1)
theorem nk_apart {kind:Int} {ps:List S70} (hN:NK kind ps) (hP: ∀p ∈ ps,Prp p):Apart ps:=by
 induction ps with
 |nil=>exact List.Pairwise.nil
 | cons x r ih=>
  have h:=List.pairwise_cons.1 hN;refine List.pairwise_cons.2 ⟨fun y hy=> ?_,ih h.2 (fun p hp=>hP p (List.mem_cons_of_mem _ hp))⟩;cases hs:same x y with
  |false=>rfl
  | true=>
   refine absurd ?_ (h.1 y hy);by_cases hk:kind=3
   ·subst hk;exact(hit_iff _ _).1 (same_hit (hP x (List.mem_cons_self ..)) hs)
   ·obtain⟨s1,s2⟩:=(same_iff _ _).1 hs;unfold hitK;rw[if_neg hk,sameP_iff,s1,s2];exact⟨rfl,rfl,rfl⟩
theorem puts_rs {kind a:Int} (ha:aggOk a=true) {key val:Int} (hv:Go.Proofs.Ytjegeghigfmkoaa.I64 val) {ps ps' :List S70} {sps:List S68} (h:Puts kind a key val ps sps ps') (hN:NK kind ps) (hP: ∀p ∈ ps,Prp p) (hs: ∀s ∈ sps,s.f0<s.f1):
  RSk kind a (ps++sps.map (one a key val)) ps'∧NK kind ps'∧ ∀p ∈ ps',Prp p:=by
 induction h with
 |nil=>exact⟨.done (by rw[List.map_nil,List.append_nil]),hN,hP⟩
 | @snoc sps sp ps1 ps2 h k ih=>
  obtain⟨i1,i2,i3⟩:=ih (fun s hs2=>hs s (List.mem_append_left _ hs2));obtain⟨j1,j2,j3⟩:=into_rs ha hv (hs sp (List.mem_append_right _ (List.mem_singleton.2 rfl))) (nk_apart i2 i3) i2 i3 k;refine⟨?_,j2,j3⟩;rw[List.map_append,←List.append_assoc];exact RS.trans (RS.app i1 _) (j1.perm (List.perm_append_singleton _ _).symm (.refl _))
end Go.Proofs.Ytjegeghigfmkoaa.T
