/- A reading of an argument opened into the printed kinds: numbers, truth values, strings, slices, structs, and structs nested in themselves. No conditions. -/
import Derived.Test.YtjegeghigfmkoaaMStatePlays2
import Derived.Test.YtjegeghigfmkoaaProg
import Derived.ChangeArms
import Derived.DataElems
import Derived.WideShapes
import Derived.SizedLaws
namespace Go.Proofs.Ytjegeghigfmkoaa.Op
open Go.RowKit Go.Proofs.YtjegeghigfmkoaaW.PrintWords Go.WideShapes
set_option linter.unusedVariables false
set_option linter.unusedSimpArgs false
set_option autoImplicit false
set_option maxRecDepth 100000
def Opens {α:Type} (n:Nat) (d:Kd α) (t:TypeId) (G:α→Prop):Prop:=
 ∀(H:Type) (enc:TypeId×Value→H) (W:World) (m:Nat) (cs:List Value) (y:DataW H×List MemPlace),m≤n→DataW.trod enc Try.prog W 0 (fun _=>true) true m t cs=some y→
  ∃x,d.K W x cs∧((y.1.weights Try.prog t).all (·≤reachBytes)=true→G x)
def OpensF {α:Type} (n:Nat) (d:Kd α) (fs:List Field) (off:Nat) (G:α→Prop):Prop:=
 ∀(H:Type) (enc:TypeId×Value→H) (W:World) (m:Nat) (cs:List Value) (ys:List (DataW H×List MemPlace)),m≤n→cs.length=off+d.sz→ys.length=fs.length→
  (∀(i:Nat) (f:Field),fs[i]? =some f→DataW.trod enc Try.prog W 0 (fun _=>true) true m f.type ((cs.drop f.offset).take (Try.prog.cellsOf f.type))=ys[i]?)→
  ∃x,d.K W x (cs.drop off)∧((DataW.weightsEach Try.prog (fs.map (·.type)) (ys.map (·.1))).all (·≤reachBytes)=true→G x)
section
variable {α β:Type} {n:Nat}
theorem Opens.imp {d:Kd α} {t:TypeId} {G G' :α→Prop} (h:Opens n d t G) (k: ∀x,G x→G' x):Opens n d t G' :=fun H enc W m cs y hm hd=>
 let ⟨x,hk,hg⟩:=h _ enc W m cs y hm hd
 ⟨x,hk,fun hw=>k x (hg hw)⟩
theorem opens_int {t:TypeId} (k:IntKind) (hu:Try.prog.underlying t=some (.int k)):Opens n (Kd.int k) t (fun x=>(Lit.int k x).wf=true):=by
 intro H enc W m cs y _ hd;obtain⟨x,rfl,rfl,hw⟩:=DataW.trod_int hu hd;exact⟨x,rfl,fun _=>hw⟩
theorem choose_list {Q:Nat→α→Prop}: ∀(m:Nat),(∀i,i<m→ ∃x,Q i x)→ ∃xs:List α,xs.length=m∧ ∀i x,xs[i]? =some x→Q i x
 |0,_=>⟨[],rfl,fun i x h=>by simp at h⟩
 | m+1,h=>by
  obtain⟨xs,hl,hx⟩:=choose_list m (fun i hi=>h i (by omega));obtain⟨x,hq⟩:=h m (by omega);refine⟨xs++[x],by simp[hl],fun i z hz=> ?_⟩;rcases Nat.lt_or_ge i m with h1|h1
  ·rw[List.getElem?_append_left (by omega)] at hz;exact hx i z hz
  ·rw[List.getElem?_append_right (by omega)] at hz;have:i-xs.length=0:=by
    rcases Nat.eq_zero_or_pos (i-xs.length) with h2|h2
    ·exact h2
    ·rw[List.getElem?_eq_none (show([x]:List α).length≤i-xs.length by simp;omega)] at hz;cases hz
   rw[this] at hz;have hz' :z=x:=by simpa using hz.symm
   have hi:i=m:=by omega
   subst hz';subst hi;exact hq
theorem all_mem {H:Type} {P:Program} {e:TypeId} {f:Nat→Bool}: ∀{ds:List (DataW H)},(DataW.weightsAll P e ds).all f=true→ ∀(i:Nat) (d:DataW H),ds[i]? =some d→(d.weights P e).all f=true
 |[],_,i,d,h=>by simp at h
 |d0::ds,h,i,d,hi=>by
  rw[DataW.weightsAll,List.all_append,Bool.and_eq_true] at h;cases i with
  |zero=>simp at hi;subst hi;exact h.1
  |succ i=>exact all_mem h.2 i d (by simpa using hi)
theorem opens_slice {d:Kd α} {G:α→Prop} {t e:TypeId} (hu:Try.prog.underlying t=some (.slice e)) (hc:Try.prog.cellsOf e=d.sz) {B:Nat} (hB:Try.prog.bytesOf e=B) (h:Opens n d e G):
  Opens (n+1) (Kd.slice e d) t (fun xs=>xs.length*B≤140737488351232∧xs.length≤9223372036854775807∧ ∀x ∈ xs,G x):=by
 intro H enc W m cs y hm hd;rcases DataW.trod_slice hu hd with ⟨rfl,rfl⟩|⟨a,len,cap,elems,rest,m',hm',rfl,rfl,hb,hl,hmx,hlen,hel,hsp,hns⟩
 ·exact⟨[],⟨none,0,rfl,by simp,Kd.C_nil d W⟩,fun _=>⟨by simp,by simp,by simp⟩⟩
 ·have hmx' :cap≤9223372036854775807:=by unfold maxLen at hmx;omega
  have key: ∀i,i<len→ ∃x,(∃c,c.length=d.sz∧d.K W x c∧ ∀j u,c[j]? =some u→W.cell? (a.add (i*d.sz+j))=some u)∧((DataW.weightsAll Try.prog e (elems.map (·.1))).all (·≤reachBytes)=true→G x):=by
   intro i hi;have he:=hel i hi;rw[List.getElem?_eq_getElem (by omega)] at he;obtain⟨c,hcell,hc2⟩:=Option.bind_eq_some_iff.1 he;obtain⟨_,hl1,hl2⟩:=World.cells?_some hcell;obtain⟨x,hk,hg⟩:=h _ enc W m' c _ (by omega) hc2;refine⟨x,⟨c,by rw[hl1,hc],hk,fun j u hj=> ?_⟩,fun hw=>hg (all_mem hw i _ ?_)⟩
   ·have hj' :j<Try.prog.cellsOf e:=by
     rw[←hl1];rcases Nat.lt_or_ge j c.length with h1|h1
     ·exact h1
     ·rw[List.getElem?_eq_none h1] at hj;cases hj
    rw[←hj,←hl2 j hj',Addr.add_add,hc]
   ·simp[List.getElem?_eq_getElem (show i<elems.length by omega)]
  obtain⟨xs,hxl,hx⟩:=choose_list len key;refine⟨xs,⟨some a,cap,by rw[hxl],by omega,⟨rfl,by omega,fun _=>⟨a,rfl,fun j p hp=>(hx j p hp).1⟩⟩⟩,fun hw=> ?_⟩;simp only[DataW.weights,hu,List.all_cons,List.all_append,Bool.and_eq_true,decide_eq_true_eq] at hw;obtain⟨hw0,hw1,_⟩:=hw;refine⟨?_,by omega,fun x hx'=> ?_⟩
  ·rw[hB] at hw0;have h1:xs.length≤(elems.map (·.1)).length+(rest.map (·.1)).length:=by simp;omega
   exact Nat.le_trans (Nat.mul_le_mul_right B h1) hw0
  ·obtain⟨i,hi,rfl⟩:=List.getElem_of_mem hx';exact(hx i _ (List.getElem?_eq_getElem hi)).2 hw1
theorem opens_iso {d:Kd α} {t:TypeId} {G:α→Prop} (f:β→α) (g:α→β) (hfg: ∀a,f (g a)=a) (h:Opens n d t G):Opens n (Kd.iso d f) t (fun b=>G (f b)):=by
 intro H enc W m cs y hm hd;obtain⟨x,hk,hg⟩:=h _ enc W m cs y hm hd;exact⟨g x,by show d.K W (f (g x)) cs;rw[hfg];exact hk,fun hw=>by show G (f (g x));rw[hfg];exact hg hw⟩
theorem opens_one {d:Kd α} {f:Field} {off:Nat} {G:α→Prop} (ho:f.offset=off) (hc:Try.prog.cellsOf f.type=d.sz) (h:Opens n d f.type G):OpensF n d [f] off G:=by
 intro H enc W m cs ys hm hl hyl hd;have h0:=hd 0 f rfl
 match ys,hyl with
 |[y],_=>
  obtain⟨x,hk,hg⟩:=h _ enc W m _ y hm (by simpa using h0);refine⟨x,?_,fun hw=>hg (by simpa[DataW.weightsEach] using hw)⟩;rw[ho,hc] at hk
  rwa [List.take_of_length_le (by rw[List.length_drop];omega)] at hk
theorem opens_more {a:Kd α} {b:Kd β} {f:Field} {fs:List Field} {off:Nat} {G:α→Prop} {G' :β→Prop} (ho:f.offset=off) (hc:Try.prog.cellsOf f.type=a.sz) (h:Opens n a f.type G) (k:OpensF n b fs (off+a.sz) G'):
  OpensF n (Kd.pair a b) (f::fs) off (fun x=>G x.1∧G' x.2):=by
 intro H enc W m cs ys hm hl hyl hd;have h0:=hd 0 f rfl
 match ys,hyl with
 | y::ys,hyl=>
  obtain⟨x,hk,hg⟩:=h _ enc W m _ y hm (by simpa using h0);obtain⟨z,hz,hg'⟩:=k _ enc W m cs ys hm (by rw[hl];show off+(a.sz+b.sz)=_;omega) (by simpa using hyl) (fun i f' hf=>by simpa using hd (i+1) f' (by simpa using hf));refine⟨(x,z),⟨_,_,?_,hk,hz⟩,fun hw=> ?_⟩
  ·rw[ho,hc,←List.drop_drop,List.take_append_drop]
  ·simp only[List.map_cons,DataW.weightsEach,List.all_append,Bool.and_eq_true] at hw;exact⟨hg hw.1,hg' hw.2⟩
theorem opens_struct {d:Kd α} {t:TypeId} {fs:Array Field} {G:α→Prop} (hu:Try.prog.underlying t=some (.struct fs)) (hc:Try.prog.cellsOf t=d.sz) (h:OpensF n d fs.toList 0 G):Opens (n+1) d t G:=by
 intro H enc W m cs y hm hd;obtain⟨xs,m',rfl,rfl,hl,hlen,hf⟩:=DataW.trod_struct hu hd;obtain⟨x,hk,hg⟩:=h _ enc W m' cs xs (by omega) (by rw[hl,hc,Nat.zero_add]) (by simpa using hlen) (fun i f hf'=>hf i f (by simpa using hf'));refine⟨x,by simpa using hk,fun hw=>hg ?_⟩;simpa[DataW.weights,hu] using hw
theorem opens_zero {d:Kd α} {t:TypeId} {G:α→Prop}:Opens 0 d t G:=by
 intro H enc W m cs y hm hd;obtain rfl:m=0:=by omega
 simp[DataW.trod] at hd
end
theorem opens_sl {α:Type} {d:Kd α} {G:α→Prop} {t e:TypeId} (hu:Try.prog.underlying t=some (.slice e)) (hc:Try.prog.cellsOf e=d.sz) {B:Nat} (hB:Try.prog.bytesOf e=B) (h: ∀n,Opens n d e G):
  ∀n,Opens n (Kd.slice e d) t (fun xs=>xs.length*B≤140737488351232∧xs.length≤9223372036854775807∧ ∀x ∈ xs,G x)
 |0=>opens_zero
 |n+1=>opens_slice hu hc hB (h n)
theorem opens_st {α:Type} {d:Kd α} {t:TypeId} {fs:Array Field} {G:α→Prop} (hu:Try.prog.underlying t=some (.struct fs)) (hc:Try.prog.cellsOf t=d.sz) (h: ∀n,OpensF n d fs.toList 0 G): ∀n,Opens n d t G
 |0=>opens_zero
 |n+1=>opens_struct hu hc (h n)
theorem arg_slice {α:Type} {d:Kd α} {t e:TypeId} {W:World} {base:Nat} {v:Value} {xs:List α} (hu:Try.prog.underlying t=some (.slice e)) (hv:Value.okWide Try.prog W .any base t v) (h:(Kd.slice e d).K W xs v.cells.toList):
  ∃A c,v= .slice A xs.length c∧xs.length≤c∧d.C W A xs.length xs:=by
 obtain⟨a,len,cap,rfl⟩:=okWide_slice hu hv;obtain⟨A,c,hcs,hl,hC⟩:=h;have hcs' :[Value.slice a len cap]=[.slice A xs.length c]:=hcs;injection hcs' with h1 _
 exact⟨A,c,h1,hl,hC⟩
theorem arg_struct {t:TypeId} {fs:Array Field} {W:World} {base:Nat} {v:Value} {cs:List Value} (hu:Try.prog.underlying t=some (.struct fs)) (hv:Value.okWide Try.prog W .any base t v) (h:v.cells.toList=cs):v= .agg cs.toArray:=by
 obtain⟨a,rfl,_⟩:=okWide_struct hu hv;subst h;rfl
theorem open_arg {α:Type} {d:Kd α} {t:TypeId} {G:α→Prop} (h: ∀n,Opens n d t G) {H:Type} {enc:TypeId×Value→H} {W:World} {v:Value} {D:DataW H} {ps:List MemPlace} {ts:List TypeId} {ds:List (DataW H)} {j:Nat}
  (hsz:(DataW.weightsEach Try.prog ts ds).all (·≤reachBytes)=true) (ht:ts[j]? =some t) (hd:ds[j]? =some D) (hD:DataW.Trod enc Try.prog W 0 (fun _=>true) true t v D ps): ∃x,d.K W x v.cells.toList∧G x:=by
 obtain⟨m,hm⟩:=hD;obtain⟨x,hk,hg⟩:=h m _ enc W m _ _ (Nat.le_refl m) hm;exact⟨x,hk,hg (List.all_eq_true.2 fun q hq=>List.all_eq_true.1 hsz q (DataW.weights_mem_each ht hd q hq))⟩
end Go.Proofs.Ytjegeghigfmkoaa.Op
