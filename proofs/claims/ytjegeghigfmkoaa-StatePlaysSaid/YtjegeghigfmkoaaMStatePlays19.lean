/- slices.Delete of one pane out of a row of the call's own. Conditions: those typed. -/
import Derived.Test.YtjegeghigfmkoaaMStatePlays18
import Derived.Deep.RegionLaw
namespace Go.Proofs.Ytjegeghigfmkoaa.X
open Go.Shelf Go.RowKit Go.Deep Go.Lib Go.Sort Go.Proofs Go.Proofs.YtjegeghigfmkoaaW.PrintWords Go.Proofs.Ytjegeghigfmkoaa.So
set_option maxRecDepth 100000
set_option linter.unusedVariables false
set_option linter.unusedSimpArgs false
def flatP (l:List S70):List Value:=l.flatMap encP
theorem flatP_len: ∀(l:List S70),(flatP l).length=l.length*4
 |[]=>rfl
 |x::l=>by
  have:=flatP_len l;unfold flatP at*
  rw[List.flatMap_cons,List.length_append,this,List.length_cons];show 4+_=_;omega
theorem flatP_get: ∀(l:List S70) (j c:Nat) (h:j<l.length),c<4→(flatP l)[j*4+c]? =(encP l[j])[c]?
 |[],j,c,h,_=>absurd h (by simp)
 |x::l,0,c,h,hc=>by
  unfold flatP;rw[List.flatMap_cons,List.getElem?_append_left (by show 0*4+c<4;omega)];simp
 |x::l,j+1,c,h,hc=>by
  have ih:=flatP_get l j c (by simpa using h) hc;unfold flatP at*
  rw[List.flatMap_cons,List.getElem?_append_right (by show 4≤_;omega)];have e:(j+1)*4+c- (encP x).length=j*4+c:=by show _-4=_;omega
  rw[e,ih];simp
theorem R_cell {w:World} {base:Nat} {ok:Nat→Prop} {g n cap:Nat} {l:List S70} (h:Kd.R k70 70 w base ok (.slice (some ⟨g,0,none⟩) n cap) l) {j c:Nat} (hj:j<l.length) (hc:c<4):
  w.cell? ⟨g,j*4+c,none⟩=(encP l[j])[c]? ∧w.frozen? ⟨g,j*4+c,none⟩=false:=by
 have:=(holds_of_R h).cell (i:=j) (c:=c) (by simpa using hj) hc;rw[Nat.zero_add] at this;have e:l.toArray[j]! =l[j]:=by simp[hj]
 rw[e] at this;exact⟨by rw[this.1,get_some (show c<(encP l[j]).length from hc)],this.2⟩
theorem R_of_cells {w' :World} {base:Nat} {ok:Nat→Prop} {g cap:Nat} {l' :List S70} {cur' :Array Value} (hok:ok g) (hbg:base≤g) (hb' :w'.heap[g]? =some (.cells cur' 70 (0,0))) (hcs:cur'.size=cap*4) (hmx:cap≤maxLen) (hle0:l'.length≤cap)
  (hcell: ∀j c (h:j<l'.length),c<4→w'.cell? ⟨g,j*4+c,none⟩=(encP l'[j])[c]?):Kd.R k70 70 w' base ok (.slice (some ⟨g,0,none⟩) l'.length cap) l' :=by
 have hsz4:k70.sz=4:=rfl;have hle:l'.length*4≤cap*4:=Nat.mul_le_mul_right 4 hle0;have htl:cur'.toList.length=cap*4:=by rw[Array.length_toList];exact hcs
 refine⟨fun k hk=> ?_,cur'.toList.take (l'.length*4),⟨?_,Or.inr ⟨g,cap,cur',rfl,hbg,hb',hle0,hmx,by rw[hsz4];exact hcs,by rw[hsz4]⟩⟩,?_,?_⟩
 ·have:g=k:=by simpa[Value.ownBlock] using hk
  subst this;exact hok
 ·rw[hsz4,List.length_take,htl];exact Nat.min_eq_left hle
 ·rw[hsz4,List.length_take,htl];exact Nat.min_eq_left hle
 ·intro j p hj;have hjl:j<l'.length:=by
   rcases Nat.lt_or_ge j l'.length with c|c
   ·exact c
   ·rw[List.getElem?_eq_none c] at hj;cases hj
  have hp:l'[j]=p:=by
   rw[List.getElem?_eq_getElem hjl] at hj;exact Option.some.inj hj
  have key:((cur'.toList.take (l'.length*4)).drop (j*k70.sz)).take k70.sz=encP p:=by
   rw[hsz4];apply List.ext_getElem?;intro c;by_cases hc:c<4
   ·have hx:=hcell j c hjl hc;rw[hp] at hx;have hcl:w'.cell? ⟨g,j*4+c,none⟩=cur'[j*4+c]? :=by simp[World.cell?,hb']
    rw[hcl] at hx;rw[List.getElem?_take_of_lt hc,List.getElem?_drop,List.getElem?_take_of_lt (by omega),Array.getElem?_toList,hx]
   ·rw[List.getElem?_eq_none (by rw[List.length_take];omega),List.getElem?_eq_none (by show 4≤c;omega)]
  rw[key];exact k70_mkM _ _ _ p
theorem run_clear46 (w:World) (ty:TypeId) (b o n c:Nat) (hn:0<n)
  (hc: ∀j,j<n*4→(w.cell? ⟨b,o+j,none⟩).isSome=true) (hf: ∀j,j<n*4→w.frozen? ⟨b,o+j,none⟩=false):
  (Builtin.clear_ #[44] ty #[.slice (some ⟨b,o,none⟩) n c]).run Try.prog w= .ok (.tuple #[]) (w.setCells b o (List.replicate (n*4) (.int .i64 0))):=by
 have hz:(zeroValue 70).run Try.prog w= .ok (.agg #[.int .i64 0,.int .i64 0,.int .i64 0,.int .i64 0]) w:=rfl;have hst:=run_storeCells_cells (P:=Try.prog) b o (List.replicate (n*4) (Value.int .i64 0)) 0 w (by simpa using hc) (by simpa using hf) (by intro v hv';rw[List.eq_of_mem_replicate hv'];rfl);simp only[Nat.add_zero] at hst;have hzc:(Builtin.zeroCells (Value.agg #[.int .i64 0,.int .i64 0,.int .i64 0,.int .i64 0]).cells n).toList=List.replicate (n*4) (Value.int .i64 0):=by
  apply List.ext_getElem
  ·simp[Builtin.zeroCells,Value.cells]
  ·intro i h1 h2;have h4:i % 4=0∨i % 4=1∨i % 4=2∨i % 4=3:=by omega
   rcases h4 with h|h|h|h<;>simp[Builtin.zeroCells,Value.cells,h]
 obtain⟨m,rfl⟩: ∃m,n=m+1:=⟨n-1,by omega⟩
 simp[Builtin.clear_,run_underlying Try.underlying44,hz,hzc,hst]
theorem setCells_block (g:Nat): ∀(vs:List Value) (o:Nat) (w:World) (cur:Array Value),w.heap[g]? =some (.cells cur 70 (0,0))→ ∃cur',(w.setCells g o vs).heap[g]? =some (.cells cur' 70 (0,0))∧cur'.size=cur.size
 |[],o,w,cur,h=>⟨cur,h,rfl⟩
 | v::vs,o,w,cur,h=>by
  have h1:(w.setCell ⟨g,o,none⟩ v).heap[g]? =some (.cells (cur.setIfInBounds o v) 70 (0,0)):=by
   unfold World.setCell;simp[h,Array.getElem?_modify]
  obtain⟨cur',e1,e2⟩:=setCells_block g vs (o+1) (w.setCell ⟨g,o,none⟩ v) _ h1;exact⟨cur',e1,by rw[e2];simp⟩
theorem below_setCells (g:Nat): ∀(vs:List Value) (o:Nat) (w0 w:World),Below g w0 w→Below g w0 (w.setCells g o vs)
 |[],_,_,_,h=>h
 |v::vs,o,w0,w,h=>below_setCells g vs (o+1) w0 _ (h.setCell (p:=⟨g,o,none⟩) (Nat.le_refl g) v)
theorem erase_get (l:List S70) {i j:Nat} (hi:i<l.length) (hj:j<(l.eraseIdx i).length):(l.eraseIdx i)[j]=if h:j<i then l[j] else l[j+1]'(by rw[List.length_eraseIdx_of_lt hi] at hj;omega):=by
 rw[List.getElem_eraseIdx]
set_option maxHeartbeats 4000000 in
theorem delete46 {w:World} {base:Nat} {ok:Nat→Prop} {g n cap:Nat} {l:List S70} (i:Nat) (h:Kd.R k70 70 w base ok (.slice (some ⟨g,0,none⟩) n cap) l) (hi:i<n) (hn:n<4398046511104):
  Calls Try.prog 82 #[.slice (some ⟨g,0,none⟩) n cap,.int .i64 i,.int .i64 ((i:Int)+1)] w fun e w'=>e= .returned (.slice (some ⟨g,0,none⟩) (n-1) cap)∧Kd.R k70 70 w' base ok (.slice (some ⟨g,0,none⟩) (n-1) cap) (l.eraseIdx i)∧Below g w w' :=by
 obtain⟨hnl,hncap,hC⟩:=Kd.R_reads' h;have hcell:=fun (j c:Nat) (hj:j<l.length) (hc:c<4)=>R_cell h hj hc
 obtain⟨hok,inner,ho,hr⟩:=h;have hlt:=own_lt ho g (by simp[Value.ownBlock]);obtain⟨hil,hform⟩:=ho;rcases hform with ⟨hbad,_⟩|⟨g',cap',cur,he,hbg,hb,h1,h2,h3,h4⟩
 ·cases hbad
 injection he with e1 e2 e3
 injection e1 with e1
 injection e1 with e1 _ _
 subst e1 e3;have hmx:cap≤9223372036854775807:=by unfold maxLen at h2;omega
 obtain⟨i0,hi0,hz0,hz1,hz2⟩:=info_parts info70;have news_len:(flatP (l.drop (i+1))).length=(n- (i+1))*4:=by rw[flatP_len,List.length_drop,hnl]
 obtain⟨A,hA,hnews⟩: ∃A:Addr,(if cap=i+1 then some (⟨g,0,none⟩:Addr) else some ⟨g,(i+1)*4,none⟩)=some A∧Hid (∀j u,(flatP (l.drop (i+1)))[j]? =some u→w.drew.cell? (A.add j)=some u):=by
  have main: ∀j u,(flatP (l.drop (i+1)))[j]? =some u→w.cell? ⟨g,(i+1)*4+j,none⟩=some u:=by
   intro j u hu;have hj:j<(flatP (l.drop (i+1))).length:=(List.getElem?_eq_some_iff.1 hu).1;rw[news_len] at hj;have hq:j / 4<(l.drop (i+1)).length:=by rw[List.length_drop];omega
   have e:=flatP_get (l.drop (i+1)) (j / 4) (j % 4) hq (by omega);rw[show j / 4*4+j % 4=j by omega,hu,List.getElem_drop] at e;have hx:=(hcell (i+1+j / 4) (j % 4) (by omega) (by omega)).1;rw[←e] at hx;rw[show(i+1)*4+j=(i+1+j / 4)*4+j % 4 by omega];exact hx
  by_cases hcap:cap=i+1
  ·refine⟨⟨g,0,none⟩,by simp[hcap],fun j u hu=> ?_⟩;have hj:j<(flatP (l.drop (i+1))).length:=(List.getElem?_eq_some_iff.1 hu).1;rw[news_len] at hj;omega
  ·refine⟨⟨g,(i+1)*4,none⟩,by simp[hcap],fun j u hu=> ?_⟩;have hm:=main j u hu;have e:(⟨g,(i+1)*4,none⟩:Addr).add j=⟨g,(i+1)*4+j,none⟩:=by
    unfold Addr.add;split
    ·subst_vars;rfl
    ·rfl
   rw[e];exact hm
 have s1:Hid ((flatP (l.drop (i+1))).length=(n- (i+1))*4):=news_len;have s2:Hid (∀u ∈ flatP (l.drop (i+1)),u.oneCell'=true):=by
  intro u hu;obtain⟨x,_,hx⟩:=List.mem_flatMap.1 hu;simp[encP] at hx;rcases hx with rfl|rfl|rfl|rfl<;>rfl
 have s3:Hid (∀j,j<(flatP (l.drop (i+1))).length→(w.drew.cell? ⟨g,0+i*4+j,none⟩).isSome=true∧w.drew.frozen? ⟨g,0+i*4+j,none⟩=false):=by
  intro j hj;rw[news_len] at hj;have hx:=hcell (i+j / 4) (j % 4) (by omega) (by omega);rw[show 0+i*4+j=(i+j / 4)*4+j % 4 by omega];exact⟨by show(w.cell? _).isSome=true;rw[hx.1,get_some (show j % 4<(encP l[i+j / 4]).length from by show j % 4<4;omega)];rfl,hx.2⟩
 have hwr:IntKind.i64.wrap ((i:Int)+1)=(i:Int)+1:=by rw[IntKind.wrap_i64];omega
 have hp0:(0:Int)≤(i:Int)+1:=by omega
 have hp1:(i:Int)+1≤(n:Int):=by omega
 have hp2:((i:Int)+1).toNat=i+1:=by omega
 have hic:i≤cap:=by omega
 have hne:((i:Int)==(i:Int)+1)=false:=beq_eq_false_iff_ne.2 (by omega);have hi1:(i:Int)≤(i:Int)+1:=by omega
 have hnc:(n:Int)≤(cap:Int):=by omega
 have HCELL:Aside0 (∀(j c:Nat) (hj:j<l.length),c<4→w.cell? ⟨g,j*4+c,none⟩=(encP l[j])[c]? ∧w.frozen? ⟨g,j*4+c,none⟩=false):=Aside0.mk hcell;have HB:Aside0 (w.heap[g]? =some (.cells cur 70 (0,0))∧cur.size=cap*4):=Aside0.mk ⟨hb,h3⟩;clear hcell hb h3 h4 hr hil hC;have HNL:Aside0 (n=l.length):=Aside0.mk hnl;have ho1:n- (i+1)≤cap- (i+1):=by omega
 have ho2:i+(n- (i+1))≤cap:=by omega
 clear hnl e2;have hu35:=Try.underlying44;have zE:=Try.sizeOf70;have hA' :(if cap=i+1 then(⟨g,0,none⟩:Addr) else⟨g,(i+1)*4,none⟩)=A:=by by_cases c:cap=i+1<;>simp_all
 go_enter Try.func82,Try.ntmps82;go_wp2_with fail
 -- probe
 go_region_law (refine step_append_room rfl (.tmp 22) (.tmp 25) 44 rfl 70 i0 4 Try.underlying44 hi0 hz1 g 0 i cap (by simp[Act.eval,Act.put]) A (n- (i+1)) (cap- (i+1)) (flatP (l.drop (i+1))) (by simp[Act.eval,Act.put]) s1.out hnews.out s2.out (by omega) s3.out ?_)
 all_goals
  have ze:i+(n- (i+1))=n-1:=by omega
  have zn:n- (n-1)=1:=by omega
  obtain⟨w2,hw2⟩: ∃w2,w2=w.drew.setCells g (i*4) (flatP (l.drop (i+1))):=⟨_,rfl⟩
  have HW2:Aside0 (w2=w.drew.setCells g (i*4) (flatP (l.drop (i+1)))):=Aside0.mk hw2;rw[←hw2];clear hw2;have key:Aside0 ((∀j c (h:j<(l.eraseIdx i).length),c<4→w2.cell? ⟨g,j*4+c,none⟩=(encP (l.eraseIdx i)[j])[c]?)∧(∀j,j<1*4→(w2.cell? ⟨g,(n-1)*4+j,none⟩).isSome=true)∧(∀j,j<1*4→w2.frozen? ⟨g,(n-1)*4+j,none⟩=false)∧(∃cur',w2.heap[g]? =some (.cells cur' 70 (0,0))∧cur'.size=cap*4)∧Below g w w2):=by
   have hC:=HCELL.out;have hnl:=HNL.out;have hlen:(l.eraseIdx i).length=n-1:=by rw[List.length_eraseIdx_of_lt (by omega)];omega
   have some4: ∀p,p<n*4→(w.drew.cell? ⟨g,p,none⟩).isSome=true:=by
    intro p hp;have hx:=(hC (p / 4) (p % 4) (by omega) (by omega)).1;rw[show p / 4*4+p % 4=p by omega] at hx;show(w.cell? _).isSome=true;rw[hx,get_some (show p % 4<(encP l[p / 4]).length from by show p % 4<4;omega)];rfl
   have out: ∀p,(p<i*4∨(n-1)*4≤p)→w2.cell? ⟨g,p,none⟩=w.cell? ⟨g,p,none⟩:=by
    intro p hp;rw[HW2.out];exact World.cell?_setCells_out g _ _ w.drew ⟨g,p,none⟩ (fun _ _=>by rw[news_len];show p<i*4∨_≤p;omega)
   refine Aside0.mk ⟨fun j c h hc=> ?_,fun j hj=> ?_,fun j hj=> ?_,?_,?_⟩
   ·rw[erase_get l (by omega) h];rw[hlen] at h;by_cases hji:j<i
    ·rw[dif_pos hji,out _ (Or.inl (by omega))];exact(hC j c (by omega) hc).1
    ·rw[dif_neg hji,HW2.out];have ht:(j-i)*4+c<(flatP (l.drop (i+1))).length:=by rw[news_len];omega
     have hin:=World.cell?_setCells_in g (flatP (l.drop (i+1))) (i*4) w.drew (fun t ht'=>by rw[news_len] at ht';exact some4 _ (by omega)) ((j-i)*4+c) ht;rw[show i*4+((j-i)*4+c)=j*4+c by omega] at hin;rw[hin,←List.getElem?_eq_getElem ht,flatP_get _ _ _ (by rw[List.length_drop];omega) hc,List.getElem_drop];congr 2;simp only[show i+1+(j-i)=j+1 by omega]
   ·rw[out _ (Or.inr (by omega))];exact some4 _ (by omega)
   ·rw[HW2.out];have hx:=(hC (n-1) j (by omega) (by omega)).2;exact(World.frozen?_setCells g _ _ _ _).trans hx
   ·rw[HW2.out];obtain⟨cur',e1,e2⟩:=setCells_block g (flatP (l.drop (i+1))) (i*4) w.drew cur HB.out.1;exact⟨cur',e1,by rw[e2];exact HB.out.2⟩
   ·rw[HW2.out];exact below_setCells g _ _ w w.drew ⟨rfl,rfl,rfl,Nat.le_refl _,fun _ _=>rfl⟩
  have hclr:=fun ty=>run_clear46 w2 ty g ((n-1)*4) 1 (cap- (n-1)) (by omega) key.out.2.1 key.out.2.2.1
  have zi:((n-1:Nat):Int)=(n:Int)-1:=by omega
  have q1:(0:Int)≤((n-1:Nat):Int):=by omega
  have q2:((n-1:Nat):Int)≤(n:Int):=by omega
  have q3:(((n-1:Nat):Int)).toNat=n-1:=by omega
  clear zi;go_wp2;go_ret;have hnl:=HNL.out;have hlen:(l.eraseIdx i).length=n-1:=by rw[List.length_eraseIdx_of_lt (by omega)];omega
  obtain⟨cur',e1,e2⟩:=key.out.2.2.2.1;obtain⟨cur2,e3,e4⟩:=setCells_block g (List.replicate (1*4) (.int .i64 0)) ((n-1)*4) w2 cur' e1;refine⟨rfl,?_,below_setCells g _ _ w w2 key.out.2.2.2.2⟩;have hR:=R_of_cells (l' :=l.eraseIdx i) (cap:=cap) (hok g (by simp[Value.ownBlock])) hbg e3 (by rw[e4,e2]) h2 (by omega) (fun j c h hc=>by
   rw[World.cell?_setCells_out g _ _ w2 ⟨g,j*4+c,none⟩ (fun _ _=>Or.inl (by show j*4+c<(n-1)*4;omega))];exact key.out.1 j c h hc)
  rw[hlen] at hR;exact hR
end Go.Proofs.Ytjegeghigfmkoaa.X
