/- Keyed state: its maps' keys, and what the maps say of the panes, in plain words. No conditions but those typed. -/
import Derived.Test.YtjegeghigfmkoaaMStatePlays11
import Derived.DeepKeys5
import Derived.Maps.RangeWalk
import Derived.Maps.OwnOps
import Derived.Maps.OwnSet
namespace Go.Proofs.Ytjegeghigfmkoaa.T
open Go.RowKit Go.Maps Go.Proofs.Ytjegeghigfmkoaa.X Go.Proofs.YtjegeghigfmkoaaW.PrintWords Go.Proofs.YtjegeghigfmkoaaW.PrintLast Go.Proofs.YtjegeghigfmkoaaW.PrintMore
set_option linter.unusedVariables false
set_option linter.unusedSimpArgs false
def I64 (x:Int):Prop:= -9223372036854775808≤x∧x≤9223372036854775807
theorem i64_wf {x:Int}:(Lit.int .i64 x).wf=true↔I64 x:=by
 unfold Lit.wf I64;simp[IntKind.min,IntKind.max,IntKind.signed,IntKind.bits]
structure P64 (p:S70):Prop where
 k:I64 p.f0
 f:I64 p.f1.f0
 t:I64 p.f1.f1
 a:I64 p.f2
def same (p x:S70):Bool:=x.f0==p.f0 && x.f1.f0==p.f1.f0 && x.f1.f1==p.f1.f1
def outP (p:S70) (l:List S70):List S70:=l.filter fun x=> !same p x
def layP (p:S70) (l:List S70):List S70:=p::outP p l
def lastP (p:S70):Int:=wrap64 (p.f1.f1-1)
def cnt (t:Int) (l:List S70):Nat:=(l.filter fun p=>lastP p==t).length
def Apart (l:List S70):Prop:=l.Pairwise fun x y=>same x y=false
def keyV (p:S70):Value:= .agg #[.int .i64 p.f0,.int .i64 p.f1.f0,.int .i64 p.f1.f1]
def keyL (p:S70):Lit:= .string (keyBytes [.int .i64 p.f0,.int .i64 p.f1.f0,.int .i64 p.f1.f1])
theorem size_types:Try.prog.types.size=166:=by kernel_rfl
theorem laid_out:laidOutB Try.prog=true:=by kernel_rfl
theorem keyed98:Keyed Try.prog 98:=Keyed.of_law (deep_law_gate laid_out (by rw[size_types];decide) (by rw[size_types];decide) (by kernel_rfl) (by kernel_rfl))
theorem keyed2:Keyed Try.prog 2:=int_keyed Try.underlying2
theorem keyType98:Try.prog.keyType 98=true:=by kernel_rfl
theorem cells2:Try.prog.cellsOf 2=1:=by kernel_rfl
theorem cells68:Try.prog.cellsOf 68=2:=by kernel_rfl
theorem cells98:Try.prog.cellsOf 98=3:=by kernel_rfl
theorem lits2 (d:Nat) {x:Int} (h:I64 x):Try.prog.keyLits (d+1) 2 [.int .i64 x]=some [.int .i64 x]:=by
 have h1:=i64_wf.2 h;simp[Program.keyLits,Try.underlying2,h1]
theorem lits68 (d:Nat) {x y:Int} (h:I64 x) (h' :I64 y):Try.prog.keyLits (d+2) 68 [.int .i64 x,.int .i64 y]=some [.int .i64 x,.int .i64 y]:=by
 unfold Program.keyLits;simp[Try.underlying68,cells2,cells68,lits2 d h,lits2 d h']
theorem lits98 (d:Nat) {p:S70} (h:P64 p):Try.prog.keyLits (d+3) 98 [.int .i64 p.f0,.int .i64 p.f1.f0,.int .i64 p.f1.f1]=some [.int .i64 p.f0,.int .i64 p.f1.f0,.int .i64 p.f1.f1]:=by
 unfold Program.keyLits;simp[Try.underlying98,cells2,cells68,cells98,lits2 (d+1) h.k,lits68 d h.f h.t]
theorem types_eq:Try.prog.types.size+1=164+3:=by rw[size_types]
theorem keyOf98 {p:S70} (h:P64 p):keyOf Try.prog 98 (keyV p)=some (keyL p):=by
 unfold keyOf keyV keyL;rw[Try.underlying98];dsimp only[Value.cells];rw[keyType98,types_eq,lits98 164 h];simp[Value.formed,Try.underlying98,cells98]
theorem lits2_inv (d:Nat) {v:Value} {l:List Lit} (h:Try.prog.keyLits (d+1) 2 [v]=some l): ∃x,v= .int .i64 x∧I64 x∧l=[.int .i64 x]:=by
 obtain⟨x,e1,rfl⟩:=keyLits_int' Try.underlying2 h;simp only[List.cons.injEq,and_true] at e1;subst e1;refine⟨x,rfl,?_,rfl⟩;simp only[Program.keyLits,Try.underlying2] at h;split at h
 ·rename_i hw;exact i64_wf.1 hw.2
 ·cases h
theorem lits68_inv (d:Nat) {u v:Value} {l:List Lit} (h:Try.prog.keyLits (d+2) 68 [u,v]=some l): ∃x y,u= .int .i64 x∧v= .int .i64 y∧I64 x∧I64 y∧l=[.int .i64 x,.int .i64 y]:=by
 unfold Program.keyLits at h;simp only[Try.underlying68] at h;simp[cells2,cells68] at h;simp only[Option.bind_eq_some_iff,Function.comp,Option.map_eq_some_iff,Option.some.injEq] at h;obtain⟨a,ha,b,⟨c,⟨b',hb,rfl⟩,rfl⟩,rfl⟩:=h;obtain⟨x,rfl,hx,rfl⟩:=lits2_inv d ha;obtain⟨y,rfl,hy,rfl⟩:=lits2_inv d hb;exact⟨x,y,rfl,rfl,hx,hy,rfl⟩
theorem lits98_inv (d:Nat) {u v v' :Value} {l:List Lit} (h:Try.prog.keyLits (d+3) 98 [u,v,v']=some l): ∃x y z,u= .int .i64 x∧v= .int .i64 y∧v'= .int .i64 z∧I64 x∧I64 y∧I64 z∧l=[.int .i64 x,.int .i64 y,.int .i64 z]:=by
 unfold Program.keyLits at h;simp only[Try.underlying98] at h;simp[cells2,cells68,cells98] at h;simp only[Option.bind_eq_some_iff,Function.comp,Option.map_eq_some_iff,Option.some.injEq] at h;obtain⟨a,ha,b,⟨c,⟨b',hb,rfl⟩,rfl⟩,rfl⟩:=h;obtain⟨x,rfl,hx,rfl⟩:=lits2_inv (d+1) ha;obtain⟨y,z,rfl,rfl,hy,hz,rfl⟩:=lits68_inv d hb;exact⟨x,y,z,rfl,rfl,rfl,hx,hy,hz,rfl⟩
set_option maxRecDepth 100000 in
theorem keyOf98_inv {v:Value} {l:Lit} (h:keyOf Try.prog 98 v=some l): ∃p:S70,P64 p∧p.f2=0∧v=keyV p∧l=keyL p:=by
 unfold keyOf at h;rw[Try.underlying98] at h;dsimp only at h;rw[keyType98,types_eq,Bool.true_and] at h;split at h
 ·rename_i hf;cases v with
  | agg cs=>
   simp only[Value.formed,Try.underlying98,cells98,beq_iff_eq] at hf;obtain⟨cs⟩:=cs
   match cs,hf,h with
   |[a,b,c],hf,h=>
    obtain⟨ls,h1,rfl⟩:=Option.map_eq_some_iff.1 h;obtain⟨x,y,z,rfl,rfl,rfl,hx,hy,hz,rfl⟩:=lits98_inv 164 h1;exact⟨⟨x,⟨y,z⟩,0⟩,⟨hx,hy,hz,show I64 0 from by unfold I64;omega⟩,rfl,rfl,rfl⟩
   |[],hf,h=>simp at hf
   |[_],hf,h=>simp at hf
   |[_,_],hf,h=>simp at hf
   |_::_::_::_::_,hf,h=>simp at hf
  |_=>simp[Value.formed,Try.underlying98] at hf
 ·cases h
theorem keyL_same {p x:S70} (hp:P64 p) (hx:P64 x):keyL p=keyL x↔same p x=true:=by
 unfold same;simp only[Bool.and_eq_true,beq_iff_eq];constructor
 ·intro h;have h1:=keyOf98 hp;rw[h] at h1;have h2:=keyed98.inj h1 (keyOf98 hx);unfold keyV at h2;simp at h2;obtain⟨e1,e2,e3⟩:=h2;exact⟨⟨e1.symm,e2.symm⟩,e3.symm⟩
 ·rintro ⟨⟨e1,e2⟩,e3⟩;unfold keyL;rw[e1,e2,e3]
theorem same_comm (p x:S70):same p x=same x p:=by
 unfold same;rw[show(x.f0==p.f0)=(p.f0==x.f0) from Bool.beq_comm,show(x.f1.f0==p.f1.f0)=(p.f1.f0==x.f1.f0) from Bool.beq_comm,show(x.f1.f1==p.f1.f1)=(p.f1.f1==x.f1.f1) from Bool.beq_comm]
theorem same_refl (p:S70):same p p=true:=by simp[same]
theorem same_iff (p x:S70):same p x=true↔x.f0=p.f0∧x.f1=p.f1:=by
 unfold same;simp only[Bool.and_eq_true,beq_iff_eq];constructor
 ·rintro ⟨⟨h1,h2⟩,h3⟩;refine⟨h1,?_⟩;cases hx:x.f1;cases hp:p.f1;rw[hx,hp] at h2 h3
  simp_all
 ·rintro ⟨h1,h2⟩;rw[h1,h2];exact⟨⟨rfl,rfl⟩,rfl⟩
theorem same_trans {p x y:S70} (h:same p x=true):same p y=same x y:=by
 obtain⟨h1,h2⟩:=(same_iff p x).1 h;unfold same;rw[h1,h2]
theorem same_last {p x:S70} (h:same p x=true):lastP x=lastP p:=by
 obtain⟨h1,h2⟩:=(same_iff p x).1 h;unfold lastP;rw[h2]
theorem keyL_key (p:S70):WideAt.IsKeyLit (keyL p):=trivial
theorem sameKey_keyL {p x:S70} (hp:P64 p) (hx:P64 x):(keyL x).sameKey (keyL p)=same p x:=by
 cases h:same p x with
 |true=>
  rw[(keyL_same hp hx).2 h];simp[keyL,Lit.sameKey]
 |false=>exact sameKey_ne (fun e=>by rw[(keyL_same hp hx).1 e.symm] at h;cases h)
abbrev DU:=DataW Unit
structure Al (D:DU) (l:List S70):Prop where
 tidy:Tidy D
 size:Maps.size D=l.length
 has: ∀k,Maps.has D k=l.any fun p=>(keyL p).sameKey k
 at_: ∀p ∈ l,∀z,D.atKey (keyL p) z= .lit (.int .i64 p.f2)
theorem Al.map {D:DU} {l:List S70} (h:Al D l):IsMap D:=h.tidy.isMap
theorem Al.nil:Al (.map []) []:=⟨tidy_empty,rfl,fun k=>rfl,fun p h=>by cases h⟩
def accP (p:S70) (l:List S70):Int:=match l.find? (same p) with|some x=>x.f2|none=>0
def hasP (p:S70) (l:List S70):Bool:=l.any (same p)
theorem Al.hasP {D:DU} {l:List S70} (h:Al D l) (hl: ∀x ∈ l,P64 x) {p:S70} (hp:P64 p):Maps.has D (keyL p)=hasP p l:=by
 rw[h.has];unfold T.hasP;rw[Bool.eq_iff_iff,List.any_eq_true,List.any_eq_true];constructor
 ·rintro ⟨x,hx,e⟩;exact⟨x,hx,by rw[sameKey_keyL hp (hl x hx)] at e;exact e⟩
 ·rintro ⟨x,hx,e⟩;exact⟨x,hx,by rw[sameKey_keyL hp (hl x hx)];exact e⟩
theorem Al.acc {D:DU} {l:List S70} (h:Al D l) (hl: ∀x ∈ l,P64 x) {p:S70} (hp:P64 p):D.atKey (keyL p) (.lit (.int .i64 0))= .lit (.int .i64 (accP p l)):=by
 unfold accP;cases hf:l.find? (same p) with
 |some x=>
  have hx:=List.mem_of_find?_eq_some hf;have hs:=List.find?_some hf;rw[(keyL_same hp (hl x hx)).2 hs];exact h.at_ x hx _
 | none=>
  have:Maps.has D (keyL p)=false:=by
   rw[h.hasP hl hp];unfold T.hasP;rw[List.any_eq_false];exact fun x hx=>by simpa using List.find?_eq_none.1 hf x hx
  exact atKey_of_not_has this _
theorem mem_outP {p x:S70} {l:List S70}:x ∈ outP p l↔x ∈ l∧same p x=false:=by
 unfold outP;rw[List.mem_filter];simp
theorem outP_none {p:S70} {l:List S70} (h:hasP p l=false):outP p l=l:=by
 unfold outP;rw[List.filter_eq_self];intro x hx;unfold hasP at h;rw[List.any_eq_false] at h;simpa using h x hx
theorem Apart.out {l:List S70} (h:Apart l) (p:S70):Apart (outP p l):=List.Pairwise.sublist List.filter_sublist h
theorem len_out {p:S70}: ∀{l:List S70},Apart l→hasP p l=true→(outP p l).length+1=l.length
 |[],_,h=>by cases h
 | x::l,ha,h=>by
  obtain⟨h1,h2⟩:=List.pairwise_cons.1 ha;cases hs:same p x with
  | true=>
   have hn:hasP p l=false:=by
    unfold hasP;rw[List.any_eq_false];intro y hy;rw[same_trans hs];simpa using h1 y hy
   have e:outP p (x::l)=l:=by
    have:outP p (x::l)=outP p l:=by unfold outP;rw[List.filter_cons,hs];rfl
    rw[this,outP_none hn]
   rw[e,List.length_cons]
  | false=>
   have hh:hasP p l=true:=by
    unfold hasP at h ⊢;rw[List.any_cons,hs,Bool.false_or] at h;exact h
   have e:outP p (x::l)=x::outP p l:=by unfold outP;rw[List.filter_cons,hs];rfl
   rw[e,List.length_cons,List.length_cons,len_out h2 hh]
theorem Al.put {D:DU} {l:List S70} (h:Al D l) (ha:Apart l) (hl: ∀x ∈ l,P64 x) {p:S70} (hp:P64 p):Al (D.put (keyL p) (.lit (.int .i64 p.f2))) (layP p l):=by
 refine⟨h.tidy.put (keyL_key p) _,?_,fun k=> ?_,fun x hx z=> ?_⟩
 ·rw[size_put h.tidy,h.hasP hl hp,h.size];unfold layP;rw[List.length_cons];cases hh:T.hasP p l with
  |true=>rw[if_pos rfl,len_out ha hh]
  |false=>rw[if_neg (by simp),outP_none hh]
 ·by_cases e:k=keyL p
  ·subst e;rw[has_put_same h.map (keyL_key p)];unfold layP;rw[List.any_cons,sameKey_keyL hp hp,same_refl];rfl
  ·rw[has_put_other e,h.has];unfold layP outP;rw[List.any_cons,sameKey_ne (fun e'=>e e'.symm),Bool.false_or];rw[Bool.eq_iff_iff,List.any_eq_true,List.any_eq_true];constructor
   ·rintro ⟨x,hx,ex⟩;refine⟨x,List.mem_filter.2 ⟨hx,?_⟩,ex⟩;cases hs:same p x with
    |false=>rfl
    |true=>
     rw[←(keyL_same hp (hl x hx)).2 hs] at ex;rw[sameKey_ne (fun e'=>e e'.symm)] at ex;cases ex
   ·rintro ⟨x,hx,ex⟩;exact⟨x,(List.mem_filter.1 hx).1,ex⟩
 ·unfold layP at hx;rcases List.mem_cons.1 hx with rfl|hx
  ·exact atKey_put_same h.map (keyL_key _) _ _
  ·obtain⟨hx,hs⟩:=mem_outP.1 hx;rw[atKey_put_other (fun e=>by rw[(keyL_same hp (hl x hx)).1 e.symm] at hs;cases hs)];exact h.at_ x hx z
theorem Al.del {D:DU} {l:List S70} (h:Al D l) (ha:Apart l) (hl: ∀x ∈ l,P64 x) {p:S70} (hp:P64 p):Al (D.del (keyL p)) (outP p l):=by
 refine⟨h.tidy.del _,?_,fun k=> ?_,fun x hx z=> ?_⟩
 ·have:=size_del (k:=keyL p) h.tidy;rw[h.hasP hl hp,h.size] at this;cases hh:T.hasP p l with
  |true=>rw[hh,if_pos rfl] at this;have:=len_out ha hh;omega
  |false=>rw[hh,if_neg (by simp)] at this;rw[outP_none hh];omega
 ·by_cases e:k=keyL p
  ·subst e;rw[has_del_same]
   symm
   rw[List.any_eq_false];intro x hx;obtain⟨hx,hs⟩:=mem_outP.1 hx;rw[sameKey_keyL hp (hl x hx),hs];simp
  ·rw[has_del_other e,h.has];rw[Bool.eq_iff_iff,List.any_eq_true,List.any_eq_true];constructor
   ·rintro ⟨x,hx,ex⟩;refine⟨x,mem_outP.2 ⟨hx,?_⟩,ex⟩;cases hs:same p x with
    |false=>rfl
    |true=>
     rw[←(keyL_same hp (hl x hx)).2 hs] at ex;rw[sameKey_ne (fun e'=>e e'.symm)] at ex;cases ex
   ·rintro ⟨x,hx,ex⟩;exact⟨x,(mem_outP.1 hx).1,ex⟩
 ·obtain⟨hx,hs⟩:=mem_outP.1 hx;rw[atKey_del_other (fun e=>by rw[(keyL_same hp (hl x hx)).1 e.symm] at hs;cases hs)];exact h.at_ x hx z
theorem Apart.lay {l:List S70} (h:Apart l) (p:S70):Apart (layP p l):=List.pairwise_cons.2 ⟨fun x hx=>(mem_outP.1 hx).2,h.out p⟩
theorem cnt_cons (t:Int) (p:S70) (l:List S70):cnt t (p::l)=(if lastP p=t then 1 else 0)+cnt t l:=by
 unfold cnt;rw[List.filter_cons];by_cases c:lastP p=t
 ·rw[if_pos (by simpa using c),if_pos c,List.length_cons];omega
 ·rw[if_neg (by simpa using c),if_neg c];omega
theorem cnt_out (t:Int) {p:S70}: ∀{l:List S70},Apart l→hasP p l=true→cnt t l=(if lastP p=t then 1 else 0)+cnt t (outP p l)
 |[],_,h=>by cases h
 | x::l,ha,h=>by
  obtain⟨h1,h2⟩:=List.pairwise_cons.1 ha;cases hs:same p x with
  | true=>
   have hn:hasP p l=false:=by
    unfold hasP;rw[List.any_eq_false];intro y hy;rw[same_trans hs];simpa using h1 y hy
   have e:outP p (x::l)=l:=by
    have:outP p (x::l)=outP p l:=by unfold outP;rw[List.filter_cons,hs];rfl
    rw[this,outP_none hn]
   rw[e,cnt_cons,same_last hs]
  | false=>
   have hh:hasP p l=true:=by
    unfold hasP at h ⊢;rw[List.any_cons,hs,Bool.false_or] at h;exact h
   have e:outP p (x::l)=x::outP p l:=by unfold outP;rw[List.filter_cons,hs];rfl
   rw[e,cnt_cons,cnt_cons,cnt_out t h2 hh];omega
theorem cnt_lay_new (t:Int) {p:S70} {l:List S70} (h:hasP p l=false):cnt t (layP p l)=(if lastP p=t then 1 else 0)+cnt t l:=by
 unfold layP;rw[cnt_cons,outP_none h]
theorem cnt_lay_old (t:Int) {p:S70} {l:List S70} (ha:Apart l) (h:hasP p l=true):cnt t (layP p l)=cnt t l:=by
 unfold layP;rw[cnt_cons,←cnt_out t ha h]
theorem last_in (p:S70):I64 (lastP p):=by unfold I64 lastP wrap64;omega
structure Ed (D:DU) (l:List S70):Prop where
 map:IsMap D
 at_: ∀t,D.atKey (.int .i64 t) (.lit (.int .i64 0))= .lit (.int .i64 (cnt t l))
theorem Ed.nil:Ed (.map []) []:=⟨isMap_empty,fun t=>rfl⟩
theorem key_ne {t t' :Int} (h:t≠t'):(Lit.int .i64 t:Lit)≠ .int .i64 t' :=fun e=>h (by injection e)
theorem Ed.put {D:DU} {l l' :List S70} (h:Ed D l) (e n:Int) (hl: ∀t,(cnt t l' :Int)=if t=e then n else cnt t l):Ed (D.put (.int .i64 e) (.lit (.int .i64 n))) l' :=by
 refine⟨h.map.put _ _,fun t=> ?_⟩;rw[hl t];by_cases c:t=e
 ·subst c;rw[if_pos rfl];exact atKey_put_same h.map (show WideAt.IsKeyLit (.int .i64 t) from trivial) _ _
 ·rw[if_neg c,atKey_put_other (key_ne c)];exact h.at_ t
theorem Ed.del {D:DU} {l:List S70} (h:Ed D l) (e:Int) (h0:cnt e l=0):Ed (D.del (.int .i64 e)) l:=by
 refine⟨h.map.del _,fun t=> ?_⟩;by_cases c:t=e
 ·subst c;rw[h0];exact atKey_del_same _
 ·rw[atKey_del_other (key_ne c)];exact h.at_ t
theorem Ed.same {D:DU} {l l' :List S70} (h:Ed D l) (e: ∀t,cnt t l'=cnt t l):Ed D l' :=⟨h.map,fun t=>by rw[e];exact h.at_ t⟩
theorem cnt_le (t:Int) (l:List S70):cnt t l≤l.length:=List.length_filter_le _ _
theorem cnt_pos {t:Int} {l:List S70}:0<cnt t l↔ ∃p ∈ l,lastP p=t:=by
 unfold cnt;rw[List.length_pos_iff_exists_mem];constructor
 ·rintro ⟨p,hp⟩;obtain⟨h1,h2⟩:=List.mem_filter.1 hp;exact⟨p,h1,by simpa using h2⟩
 ·rintro ⟨p,h1,h2⟩;exact⟨p,List.mem_filter.2 ⟨h1,by simpa using h2⟩⟩
theorem len_lay (p:S70) (l:List S70):(layP p l).length≤l.length+1:=by
 unfold layP outP;rw[List.length_cons];have:=List.length_filter_le (fun x=> !same p x) l;omega
end Go.Proofs.Ytjegeghigfmkoaa.T
