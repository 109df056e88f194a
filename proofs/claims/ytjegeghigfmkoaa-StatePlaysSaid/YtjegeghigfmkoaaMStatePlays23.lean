/- Numbers as bytes: state.number, leatref1.Put, state.taken, leatlaw12.bytes, in plain Lean. No conditions but those typed. -/
import Derived.Test.YtjegeghigfmkoaaMStatePlays20
import Derived.Test.YtjegeghigfmkoaaMStatePlays11
import Derived.Laws.Bits64b
namespace Go.Proofs.Ytjegeghigfmkoaa.T
open Go.RowKit Go.Sort Go.Proofs.YtjegeghigfmkoaaW.PrintWords Go.Proofs.YtjegeghigfmkoaaW.PrintMore Go.Proofs.Ytjegeghigfmkoaa Go.Proofs.Ytjegeghigfmkoaa.So Go.Proofs.Ytjegeghigfmkoaa.X Go.Proofs.Ytjegeghigfmkoaa.Nf Go.Proofs.Ytjegeghigfmkoaa.Th
set_option linter.unusedVariables false
set_option linter.unusedSimpArgs false
def numB (n:Int):Nat→List Int
 |0=>[]
 |s+1=>(n / 256 ^ s % 256)::numB n s
theorem numB_len (n:Int): ∀s,(numB n s).length=s
 |0=>rfl
 |s+1=>by rw[numB,List.length_cons,numB_len n s]
theorem shr_256 (n:Int) (s:Nat) (hs:s≤7):shr .u64 n (8*(s:Int))=n / 256 ^ s:=by
 unfold shr
 have e:min (8*(s:Int)).toNat IntKind.u64.bits=8*s:=by
  show min _ 64=_;omega
 rw[e,Int.pow_mul];rfl
theorem u64w (n:Int):IntKind.u64.wrap n=n % 18446744073709551616:=IntKind.wrap_u64 n
theorem number_l0 (n:Int): ∀(s:Nat) (b:List Int),s≤8→b.length+s<140737488355328→Ev (fun k=>state_number.l0 k b n ((s:Int)-1)) (b++numB n s)
 |0,b,_,_=>by
  rw[numB,List.append_nil];refine Ev.step (f:=fun _=>some b) (fun k=> ?_) (Ev.now _);simp only[state_number.l0];rw[if_neg (by omega)]
 |s+1,b,hs,hb=>by
  have ih:=number_l0 n s (b++[n / 256 ^ s % 256]) (by omega) (by simp;omega);rw[List.append_assoc,List.singleton_append] at ih;change Ev _ (b++numB n (s+1)) at ih;refine Ev.step (fun k=> ?_) ih;have e1:(((s+1:Nat):Int)-1)=(s:Int):=by omega
  have e2:wrap64 (8*(s:Int))=8*(s:Int):=w_in (by omega);have e3:IntKind.u64.wrap (8*(s:Int))=8*(s:Int):=by rw[u64w];omega
  have e4:wrap64 ((s:Int)-1)=(s:Int)-1:=w_in (by omega);simp only[state_number.l0];rw[e1,e2,e3,e4,if_pos (by omega),if_pos (by omega),if_pos (by omega),shr_256 n s (by omega)]
theorem number_ev (n:Int) (s:Nat) (b:List Int) (hs:s≤8) (hb:b.length+s<140737488355328):Ev (fun k=>state_number.f k b n (s:Int)) (b++numB n s):=
 Ev.congr (fun k=>by rw[state_number.f,w_in (by omega)]) (number_l0 n s b hs hb)
theorem refput_l0 (n:Int): ∀(s:Nat) (b:List Int),s≤8→b.length+s<140737488355328→Ev (fun k=>leatref1_Put.l0 k b n ((s:Int)-1)) (b++numB n s)
 |0,b,_,_=>by
  rw[numB,List.append_nil];refine Ev.step (f:=fun _=>some b) (fun k=> ?_) (Ev.now _);simp only[leatref1_Put.l0];rw[if_neg (by omega)]
 |s+1,b,hs,hb=>by
  have ih:=refput_l0 n s (b++[n / 256 ^ s % 256]) (by omega) (by simp;omega);rw[List.append_assoc,List.singleton_append] at ih;change Ev _ (b++numB n (s+1)) at ih;refine Ev.step (fun k=> ?_) ih;have e1:(((s+1:Nat):Int)-1)=(s:Int):=by omega
  have e2:wrap64 (8*(s:Int))=8*(s:Int):=w_in (by omega);have e4:wrap64 ((s:Int)-1)=(s:Int)-1:=w_in (by omega);simp only[leatref1_Put.l0];rw[e1,e2,e4,if_pos (by omega),if_pos (by omega),if_pos (by omega),shr_256 n s (by omega)]
theorem refput_ev (n:Int) (s:Nat) (b:List Int) (hs:s≤8) (hb:b.length+s<140737488355328):Ev (fun k=>leatref1_Put.f k b (s:Int) n) (b++numB n s):=
 Ev.congr (fun k=>by rw[leatref1_Put.f,w_in (by omega)]) (refput_l0 n s b hs hb)
def paneB (p:S70):List Int:=numB (IntKind.u64.wrap p.f0) 8++(numB (IntKind.u64.wrap p.f1.f0) 8++(numB (IntKind.u64.wrap p.f1.f1) 8++numB (IntKind.u64.wrap p.f2) 8))
theorem paneB_len (p:S70):(paneB p).length=32:=by simp[paneB,numB_len]
def panesB (l:List S70):List Int:=l.flatMap paneB
theorem panesB_len (l:List S70):(panesB l).length=32*l.length:=by
 induction l with
 |nil=>rfl
 |cons p r ih=>unfold panesB at ih ⊢;rw[List.flatMap_cons,List.length_append,paneB_len,ih,List.length_cons];omega
def bytesB (l:List S70):List Int:=numB (IntKind.u64.wrap (l.length:Int)) 4++panesB l
theorem bytesB_len (l:List S70):(bytesB l).length=4+32*l.length:=by rw[bytesB,List.length_append,numB_len,panesB_len]
theorem bytes_l0 (l:List S70) (hl:l.length≤1000000): ∀(d i:Nat) (b:List Int),l.length=i+d→b.length≤4+32*i→Ev (fun k=>leatlaw12_bytes.l0 k l b (i:Int)) (b++panesB (l.drop i))
 |0,i,b,h,hb=>by
  rw[List.drop_eq_nil_of_le (by omega)];refine Ev.step (f:=fun _=>some _) (fun k=> ?_) (Ev.now _);simp only[leatlaw12_bytes.l0];rw[if_neg (by omega)];simp[panesB]
 |d+1,i,b,h,hb=>by
  have hlt:i<l.length:=by omega
  have ih:=bytes_l0 l hl d (i+1) (b++paneB l[i]) (by omega) (by rw[List.length_append,paneB_len];omega);rw[List.drop_eq_getElem_cons hlt,show panesB (l[i]::l.drop (i+1))=paneB l[i]++panesB (l.drop (i+1)) from List.flatMap_cons ..,←List.append_assoc];have e0:=refput_ev (IntKind.u64.wrap l[i].f0) 8 b (by omega) (by omega);have e1:=refput_ev (IntKind.u64.wrap l[i].f1.f0) 8 (b++numB (IntKind.u64.wrap l[i].f0) 8) (by omega) (by rw[List.length_append,numB_len];omega);have e2:=refput_ev (IntKind.u64.wrap l[i].f1.f1) 8 (b++numB (IntKind.u64.wrap l[i].f0) 8++numB (IntKind.u64.wrap l[i].f1.f0) 8) (by omega) (by simp only[List.length_append,numB_len];omega);have e3:=refput_ev (IntKind.u64.wrap l[i].f2) 8 (b++numB (IntKind.u64.wrap l[i].f0) 8++numB (IntKind.u64.wrap l[i].f1.f0) 8++numB (IntKind.u64.wrap l[i].f1.f1) 8) (by omega) (by simp only[List.length_append,numB_len];omega);have e:b++numB (IntKind.u64.wrap l[i].f0) 8++numB (IntKind.u64.wrap l[i].f1.f0) 8++numB (IntKind.u64.wrap l[i].f1.f1) 8++numB (IntKind.u64.wrap l[i].f2) 8=b++paneB l[i]:=by simp[paneB]
  rw[e] at e3;refine Ev.step (f:=fun k=>(leatref1_Put.f k b 8 (IntKind.u64.wrap l[i].f0)).bind fun t270=>(leatref1_Put.f k t270 8 (IntKind.u64.wrap l[i].f1.f0)).bind fun t274=>(leatref1_Put.f k t274 8 (IntKind.u64.wrap l[i].f1.f1)).bind fun t278=>(leatref1_Put.f k t278 8 (IntKind.u64.wrap l[i].f2)).bind fun t282=>leatlaw12_bytes.l0 k l t282 ((i+1:Nat):Int)) (fun k=> ?_) (Ev.bind e0 (Ev.bind e1 (Ev.bind e2 (Ev.bind e3 ih))));simp only[leatlaw12_bytes.l0];rw[if_pos (by omega),if_pos (by omega),rd46_at hlt,step_i hlt (by omega)]
theorem bytes_ev (l:List S70) (hl:l.length≤1000000):Ev (fun k=>leatlaw12_bytes.f k l) (bytesB l):=by
 have h0:=refput_ev (IntKind.u64.wrap (l.length:Int)) 4 [] (by omega) (by simp);have h1:=bytes_l0 l hl l.length 0 (numB (IntKind.u64.wrap (l.length:Int)) 4) (by omega) (by rw[numB_len];omega);rw[List.nil_append] at h0;exact Ev.bind h0 h1
end Go.Proofs.Ytjegeghigfmkoaa.T
