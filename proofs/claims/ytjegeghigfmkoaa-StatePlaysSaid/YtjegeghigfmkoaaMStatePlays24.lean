/- Bytes read as numbers, and as panes, in plain Lean. No conditions but those typed. -/
import Derived.Test.YtjegeghigfmkoaaMStatePlays23
import Derived.Test.YtjegeghigfmkoaaMStatePlays21
namespace Go.Proofs.Ytjegeghigfmkoaa.T
open Go.RowKit Go.Sort Go.Proofs.YtjegeghigfmkoaaW.PrintWords Go.Proofs.YtjegeghigfmkoaaW.PrintMore Go.Proofs.Ytjegeghigfmkoaa Go.Proofs.Ytjegeghigfmkoaa.So Go.Proofs.Ytjegeghigfmkoaa.X Go.Proofs.Ytjegeghigfmkoaa.Nf Go.Proofs.Ytjegeghigfmkoaa.Th
set_option linter.unusedVariables false
set_option linter.unusedSimpArgs false
noncomputable def tk (n x:Int):Int:=Go.bits .or .u64 (IntKind.u64.wrap (n*256)) (IntKind.u64.wrap x)
noncomputable def takenP (l:List Int):Int:=wrap64 (l.foldl tk 0)
theorem wrap64_in (x:Int):I64 (wrap64 x):=by unfold wrap64 I64;omega
theorem taken_l0 (l:List Int) (hl:l.length<4611686018427387904): ∀(d i:Nat) (n:Int),l.length=i+d→Ev (fun k=>state_taken.l0 k n l (l.length:Int) (i:Int)) (wrap64 ((l.drop i).foldl tk n))
 |0,i,n,h=>by
  rw[List.drop_eq_nil_of_le (by omega)];refine Ev.step (f:=fun _=>some _) (fun k=> ?_) (Ev.now _);simp only[state_taken.l0];rw[if_neg (by omega)];rfl
 |d+1,i,n,h=>by
  have hlt:i<l.length:=by omega
  have ih:=taken_l0 l hl d (i+1) (tk n l[i]) (by omega);rw[List.drop_eq_getElem_cons hlt,List.foldl_cons];refine Ev.step (fun k=> ?_) ih;have e:rd l (i:Int)=l[i]:=by simp[rd,hlt]
  simp only[state_taken.l0];rw[if_pos (by omega),if_pos (by omega),if_pos (by omega),e,step_i hlt hl];rfl
theorem taken_ev (l:List Int) (hl:l.length<4611686018427387904):Ev (fun k=>state_taken.f k l) (takenP l):=taken_l0 l hl l.length 0 0 (by omega)
theorem tk_add (a b:Nat) (hb:b<256) (h:256*a+b<18446744073709551616):tk (a:Int) (b:Int)=((256*a+b:Nat):Int):=by
 unfold tk;have e1:IntKind.u64.wrap ((a:Int)*256)=((2 ^ 8*a:Nat):Int):=by rw[u64w];omega
 have e2:IntKind.u64.wrap (b:Int)=(b:Int):=by rw[u64w];omega
 rw[e1,e2,bits_or_u64_nat _ _ (by omega) (by omega),←Nat.two_pow_add_eq_or_of_lt hb]
theorem tk_num (m:Nat) (hm:m<18446744073709551616): ∀s:Nat,(numB (m:Int) s).foldl tk ((m / 256 ^ s:Nat):Int)=(m:Int)
 |0=>by simp[numB]
 | s+1=>by
  have ih:=tk_num m hm s;rw[numB,List.foldl_cons]
  have e0:((m:Int)/ 256 ^ s % 256)=((m / 256 ^ s % 256:Nat):Int):=by
   rw[Int.natCast_emod,Int.natCast_ediv,Int.natCast_pow];rfl
  have e1:m / 256 ^ (s+1)=m / 256 ^ s / 256:=by rw[Nat.pow_succ,Nat.div_div_eq_div_mul]
  have e2:256*(m / 256 ^ s / 256)+m / 256 ^ s % 256=m / 256 ^ s:=by omega
  have e3:m / 256 ^ s≤m:=Nat.div_le_self _ _;rw[e0,e1,tk_add _ _ (by omega) (by omega),e2];exact ih
theorem taken_8 {x:Int} (hx:I64 x):takenP (numB (IntKind.u64.wrap x) 8)=x:=by
 unfold I64 at hx;obtain⟨m,hm⟩: ∃m:Nat,IntKind.u64.wrap x=(m:Int):=⟨(IntKind.u64.wrap x).toNat,by rw[u64w];omega⟩
 have hm2:m<18446744073709551616:=by rw[u64w] at hm;omega
 have h:=tk_num m hm2 8;have e:m / 256 ^ 8=0:=Nat.div_eq_of_lt (by omega);rw[e] at h;rw[hm,takenP];rw[show((0:Nat):Int)=0 from rfl] at h;rw[h,←hm,u64w];unfold wrap64;omega
noncomputable def paneOf (l:List Int):S70:=⟨takenP (l.take 8),⟨takenP ((l.take 16).drop 8),takenP ((l.take 24).drop 16)⟩,takenP ((l.take 32).drop 24)⟩
noncomputable def parseN:Nat→List Int→List S70
 |0,_=>[]
 |n+1,l=>paneOf l::parseN n (l.drop 32)
theorem parseN_len: ∀n l,(parseN n l).length=n
 |0,_=>rfl
 |n+1,l=>by rw[parseN,List.length_cons,parseN_len n]
theorem parseN_64: ∀n l,∀p ∈ parseN n l,P64 p
 |0,_,_,h=>by cases h
 |n+1,l,p,h=>by
  rcases List.mem_cons.1 h with rfl|h
  ·exact⟨wrap64_in _,wrap64_in _,wrap64_in _,wrap64_in _⟩
  ·exact parseN_64 n _ p h
theorem paneOf_B {p:S70} (hp:P64 p) (r:List Int):paneOf (paneB p++r)=p:=by
 have h1:=numB_len (IntKind.u64.wrap p.f0) 8;have h2:=numB_len (IntKind.u64.wrap p.f1.f0) 8;have h3:=numB_len (IntKind.u64.wrap p.f1.f1) 8;have h4:=numB_len (IntKind.u64.wrap p.f2) 8;unfold paneOf paneB;have t1:=taken_8 hp.k;have t2:=taken_8 hp.f;have t3:=taken_8 hp.t;have t4:=taken_8 hp.a;generalize numB (IntKind.u64.wrap p.f0) 8=a1 at h1 t1 ⊢;generalize numB (IntKind.u64.wrap p.f1.f0) 8=a2 at h2 t2 ⊢;generalize numB (IntKind.u64.wrap p.f1.f1) 8=a3 at h3 t3 ⊢;generalize numB (IntKind.u64.wrap p.f2) 8=a4 at h4 t4 ⊢;have e1:(a1++(a2++(a3++a4))++r).take 8=a1:=by simp[List.take_append,h1]
 have e2:((a1++(a2++(a3++a4))++r).take 16).drop 8=a2:=by simp[List.take_append,List.drop_append,h1,h2]
 have e3:((a1++(a2++(a3++a4))++r).take 24).drop 16=a3:=by simp[List.take_append,List.drop_append,h1,h2,h3]
 have e4:((a1++(a2++(a3++a4))++r).take 32).drop 24=a4:=by simp[List.take_append,List.drop_append,h1,h2,h3,h4,List.take_of_length_le,List.drop_eq_nil_of_le]
 rw[e1,e2,e3,e4,t1,t2,t3,t4]
theorem parse_B: ∀ps:List S70,(∀p ∈ ps,P64 p)→parseN ps.length (panesB ps)=ps
 |[],_=>rfl
 |p::r,h=>by
  have e:panesB (p::r)=paneB p++panesB r:=List.flatMap_cons ..;rw[List.length_cons,parseN,e,paneOf_B (h p (List.mem_cons_self ..)),List.drop_append,paneB_len,List.drop_eq_nil_of_le (by rw[paneB_len];omega)];simp only[Nat.sub_self,List.drop_zero,List.nil_append];rw[parse_B r (fun x hx=>h x (List.mem_cons_of_mem _ hx))]
end Go.Proofs.Ytjegeghigfmkoaa.T
