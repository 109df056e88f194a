/- Keyed state in memory: the state's block, its two maps, its timers. No conditions but those typed. -/
import Derived.Test.YtjegeghigfmkoaaMStatePlays14
import Derived.Lib.SmallJoins
import Derived.Laws.OwnMore
import Derived.Maps.AppendAt
namespace Go.Proofs.Ytjegeghigfmkoaa.T
open Go.RowKit Go.Maps Go.Sort Go.Proofs.Ytjegeghigfmkoaa.X Go.Proofs.YtjegeghigfmkoaaW.PrintWords Go.Proofs.YtjegeghigfmkoaaW.PrintLast Go.Proofs.YtjegeghigfmkoaaW.PrintMore
set_option linter.unusedVariables false
set_option linter.unusedSimpArgs false
set_option maxRecDepth 100000
structure Fr (M:Nat→Prop) (w w' :World):Prop where
 os:w'.os=w.os
 tape:w'.tape=w.tape
 output:w'.output=w.output
 size:w.heap.size≤w'.heap.size
 block: ∀k,k<w.heap.size→ ¬M k→w'.heap[k]? =w.heap[k]?
theorem Fr.refl (M:Nat→Prop) (w:World):Fr M w w:=⟨rfl,rfl,rfl,Nat.le_refl _,fun _ _ _=>rfl⟩
theorem Fr.trans {M:Nat→Prop} {a b c:World} (h:Fr M a b) (k:Fr M b c):Fr M a c:=
 ⟨k.os.trans h.os,k.tape.trans h.tape,k.output.trans h.output,Nat.le_trans h.size k.size,fun i hi hM=>(k.block i (Nat.lt_of_lt_of_le hi h.size) hM).trans (h.block i hi hM)⟩
theorem Fr.mono {M M' :Nat→Prop} {a b:World} (h:Fr M a b) (hM: ∀k,k<a.heap.size→M k→M' k):Fr M' a b:=
 ⟨h.os,h.tape,h.output,h.size,fun i hi hn=>h.block i hi (fun hk=>hn (hM i hi hk))⟩
theorem Fr.below {M:Nat→Prop} {a b c:World} (h:Fr M a b) (k:Below b.heap.size b c):Fr M a c:=
 h.trans ⟨k.os,k.tape,k.output,k.size,fun i hi _=>k.block i hi⟩
theorem Fr.of_below {M:Nat→Prop} {b c:World} (k:Below b.heap.size b c):Fr M b c:=(Fr.refl M b).below k
theorem Fr.of_below' {M:Nat→Prop} {B:Nat} {b c:World} (k:Below B b c) (hM: ∀k,B≤k→k<b.heap.size→M k):Fr M b c:=
 ⟨k.os,k.tape,k.output,k.size,fun i hi hn=>k.block i (Nat.lt_of_not_le fun h=>hn (hM i h hi))⟩
theorem Fr.toBelow {M:Nat→Prop} {B:Nat} {a b:World} (h:Fr M a b) (hB:B≤a.heap.size) (hM: ∀k,k<a.heap.size→M k→B≤k):Below B a b:=
 ⟨h.os,h.tape,h.output,h.size,fun k hk=>h.block k (by omega) (fun hm=>by have:=hM k (by omega) hm;omega)⟩
theorem Fr.setCell {M:Nat→Prop} {a b:World} (h:Fr M a b) {p:Addr} (hp:M p.block) (u:Value):Fr M a (b.setCell p u):=
 h.trans ⟨rfl,rfl,rfl,by simp[World.setCell],fun k _ hn=>Below.heap_setCell _ _ _ _ (fun e=>hn (e▸hp))⟩
theorem Fr.alloc {M:Nat→Prop} {a b:World} (h:Fr M a b) (o:Obj):Fr M a (b.alloc o):=h.below ((Below.refl _ _).alloc (Nat.le_refl _) o)
theorem Fr.drew {M:Nat→Prop} {a b:World} (h:Fr M a b):Fr M a b.drew:=⟨h.os,h.tape,h.output,h.size,h.block⟩
theorem Fr.drewN {M:Nat→Prop} {a b:World} (h:Fr M a b) (n:Nat):Fr M a (b.drewN n):=⟨h.os,h.tape,h.output,h.size,h.block⟩
theorem Fr.grown {M:Nat→Prop} {a b c:World} {row:Option Nat} (h:Fr M a b) (k:b.grownBy c row) (hr: ∀j,row=some j→M j∨b.heap.size≤j):Fr M a c:=
 h.trans ⟨k.os,k.tape,k.output,k.size,fun i hi hn=>k.block i hi (fun e=>by rcases hr i e.symm with h1|h1;exact hn h1;omega)⟩
theorem lt_of_block {w:World} {k:Nat} {o:Obj} (h:w.heap[k]? =some o):k<w.heap.size:=(Array.getElem?_eq_some_iff.1 h).1
structure St where
 kind:Int
 size:Int
 slide:Int
 a:Int
 ps:List S70
noncomputable abbrev RA:Value→Option (DU×List MemPlace):=plainElem Try.prog 2
noncomputable abbrev RE:Value→Option (DU×List MemPlace):=plainElem Try.prog 3
structure IsT (F:Nat→Prop) (N:Nat) (w:World) (q b1 b2:Nat) (tv:Value) (tm:List Int) (s:St):Prop where
 at_:w.heap[q]? =some (.cells #[.int .i64 s.kind,.int .i64 s.size,.int .i64 s.slide,.int .i64 s.a,.map (some b1),tv,.map (some b2)] 87 (0,0))
 all: ∃D,w.ownsMap Try.prog 98 RA b1 N D∧Al D s.ps
 ends: ∃D,w.ownsMap Try.prog 2 RE b2 N D∧Ed D s.ps
 tms:w.ownsRow 0 2 1 tv tm.length (nums .i64 tm)
 heap:Hp tm.length tm.toArray
 tmN:tm.length≤N
 last: ∀p ∈ s.ps,lastP p ∈ tm
 tm64: ∀x ∈ tm,I64 x
 fq:F q
 f1:F b1
 f2:F b2
 ft: ∀g,tv.ownBlock=some g→F g
 ne:b1≠b2
 apart:Apart s.ps
 p64: ∀p ∈ s.ps,P64 p
 small:N≤1000000
 bound: ∀k,F k→k<w.heap.size
 len:s.ps.length≤N
def IsS (F:Nat→Prop) (N:Nat) (w:World) (q:Nat) (s:St):Prop:= ∃b1 b2 tv tm,IsT F N w q b1 b2 tv tm s
def Fx (F:Nat→Prop) (w w' :World) (k:Nat):Prop:=F k∨(w.heap.size≤k∧k<w'.heap.size)
section
variable {F:Nat→Prop} {N:Nat} {w w' :World} {q b1 b2:Nat} {tv:Value} {tm:List Int} {s:St}
theorem own_fr {M:Nat→Prop} {v:Value} {B e z n:Nat} {xs:List Value} (h:w.ownsRow B e z v n xs) (hf:Fr M w w') (hM: ∀g,v.ownBlock=some g→ ¬M g):w'.ownsRow B e z v n xs:=by
 obtain⟨h1,h2|⟨g,cap,cur,rfl,hb,hc,r⟩⟩:=h
 ·exact⟨h1,Or.inl h2⟩
 ·exact⟨h1,Or.inr ⟨g,cap,cur,rfl,hb,(hf.block g (lt_of_block hc) (hM g rfl)).trans hc,r⟩⟩
theorem map_fr {M:Nat→Prop} {k:TypeId} {R:Value→Option (DU×List MemPlace)} {b n:Nat} {D:DU} (h:w.ownsMap Try.prog k R b n D) (hf:Fr M w w') (hM: ¬M b):w'.ownsMap Try.prog k R b n D:=by
 have hlt:=h.lt;obtain⟨es,c,hb,r⟩:=h;exact⟨es,c,(hf.block b hlt hM).trans hb,r⟩
theorem IsT.fr {M:Nat→Prop} (h:IsT F N w q b1 b2 tv tm s) (hf:Fr M w w') (hM: ∀k,M k→ ¬F k):IsT F N w' q b1 b2 tv tm s:=by
 obtain⟨D1,m1,a1⟩:=h.all;obtain⟨D2,m2,a2⟩:=h.ends;exact⟨(hf.block q (h.bound q h.fq) (fun m=>hM _ m h.fq)).trans h.at_,⟨D1,map_fr m1 hf (fun m=>hM _ m h.f1),a1⟩,⟨D2,map_fr m2 hf (fun m=>hM _ m h.f2),a2⟩,own_fr h.tms hf (fun g hg m=>hM _ m (h.ft g hg)),h.heap,h.tmN,h.last,h.tm64,h.fq,h.f1,h.f2,h.ft,h.ne,h.apart,h.p64,h.small,fun k hk=>Nat.lt_of_lt_of_le (h.bound k hk) hf.size,h.len⟩
theorem IsT.below (h:IsT F N w q b1 b2 tv tm s) (hb:Below w.heap.size w w'):IsT F N w' q b1 b2 tv tm s:=h.fr (M:=fun _=>False) (Fr.of_below hb) (fun _ m=>m.elim)
theorem IsT.mono {F' :Nat→Prop} {N' :Nat} (h:IsT F N w q b1 b2 tv tm s) (hF: ∀k,F k→F' k) (hb: ∀k,F' k→k<w.heap.size) (hN:N≤N') (hs:N'≤1000000):IsT F' N' w q b1 b2 tv tm s:=by
 obtain⟨D1,m1,a1⟩:=h.all;obtain⟨D2,m2,a2⟩:=h.ends;exact⟨h.at_,⟨D1,m1.mono hN,a1⟩,⟨D2,m2.mono hN,a2⟩,h.tms,h.heap,Nat.le_trans h.tmN hN,h.last,h.tm64,hF _ h.fq,hF _ h.f1,hF _ h.f2,fun g hg=>hF _ (h.ft g hg),h.ne,h.apart,h.p64,hs,hb,Nat.le_trans h.len hN⟩
theorem IsT.cells (h:IsT F N w q b1 b2 tv tm s):w.cell? ⟨q,0,none⟩=some (.int .i64 s.kind)∧w.cell? ⟨q,1,none⟩=some (.int .i64 s.size)∧w.cell? ⟨q,2,none⟩=some (.int .i64 s.slide)∧w.cell? ⟨q,3,none⟩=some (.int .i64 s.a)∧w.cell? ⟨q,4,none⟩=some (.map (some b1))∧w.cell? ⟨q,5,none⟩=some tv∧w.cell? ⟨q,6,none⟩=some (.map (some b2)):=
 ⟨(blk_cell h.at_ 0).trans rfl,(blk_cell h.at_ 1).trans rfl,(blk_cell h.at_ 2).trans rfl,(blk_cell h.at_ 3).trans rfl,(blk_cell h.at_ 4).trans rfl,(blk_cell h.at_ 5).trans rfl,(blk_cell h.at_ 6).trans rfl⟩
theorem IsT.qne1 (h:IsT F N w q b1 b2 tv tm s):q≠b1:=fun e=>by
 obtain⟨D,⟨es,c,hb,_⟩,_⟩:=h.all;rw[←e,h.at_] at hb;cases hb
theorem IsT.qne2 (h:IsT F N w q b1 b2 tv tm s):q≠b2:=fun e=>by
 obtain⟨D,⟨es,c,hb,_⟩,_⟩:=h.ends;rw[←e,h.at_] at hb;cases hb
theorem IsT.tne1 (h:IsT F N w q b1 b2 tv tm s): ∀g,tv.ownBlock=some g→g≠b1∧g≠b2∧g≠q:=fun g hg=>by
 obtain⟨_,⟨rfl,_⟩|⟨g',cap,cur,rfl,_,hc,_⟩⟩:=h.tms
 ·cases hg
 ·injection hg with hg
  subst hg;obtain⟨D,⟨es,c,hb,_⟩,_⟩:=h.all;obtain⟨D2,⟨es2,c2,hb2,_⟩,_⟩:=h.ends;refine⟨fun e=> ?_,fun e=> ?_,fun e=> ?_⟩
  ·have e:g'=b1:=e;rw[←e,hc] at hb;cases hb
  ·have e:g'=b2:=e;rw[←e,hc] at hb2;cases hb2
  ·have e:g'=q:=e;have:=h.at_;rw[←e,hc] at this;cases this
theorem IsT.slice (h:IsT F N w q b1 b2 tv tm s): ∃A c,tv= .slice A tm.length c:=own_slice h.tms
theorem IsT.tmlen (h:IsT F N w q b1 b2 tv tm s):tm.length≤1000000:=Nat.le_trans h.tmN h.small
structure To (F:Nat→Prop) (w w' :World) (N q:Nat) (s:St):Prop where
 is:IsS (Fx F w w') N w' q s
 fr:Fr F w w'
theorem Fx.bound {w' :World} (hb: ∀k,F k→k<w.heap.size) (hs:w.heap.size≤w'.heap.size): ∀k,Fx F w w' k→k<w'.heap.size:=fun k hk=>by
 rcases hk with h|h
 ·exact Nat.lt_of_lt_of_le (hb k h) hs
 ·exact h.2
theorem IsS.fr {M:Nat→Prop} (h:IsS F N w q s) (hf:Fr M w w') (hM: ∀k,M k→ ¬F k):IsS F N w' q s:=by
 obtain⟨b1,b2,tv,tm,h⟩:=h;exact⟨b1,b2,tv,tm,h.fr hf hM⟩
theorem IsS.below (h:IsS F N w q s) (hb:Below w.heap.size w w'):IsS F N w' q s:=by
 obtain⟨b1,b2,tv,tm,h⟩:=h;exact⟨b1,b2,tv,tm,h.below hb⟩
theorem IsS.mono {F' :Nat→Prop} {N' :Nat} (h:IsS F N w q s) (hF: ∀k,F k→F' k) (hb: ∀k,F' k→k<w.heap.size) (hN:N≤N') (hs:N'≤1000000):IsS F' N' w q s:=by
 obtain⟨b1,b2,tv,tm,h⟩:=h;exact⟨b1,b2,tv,tm,h.mono hF hb hN hs⟩
theorem IsS.bound (h:IsS F N w q s): ∀k,F k→k<w.heap.size:=by
 obtain⟨b1,b2,tv,tm,h⟩:=h;exact h.bound
theorem IsS.small (h:IsS F N w q s):N≤1000000:=by
 obtain⟨b1,b2,tv,tm,h⟩:=h;exact h.small
theorem IsS.apart (h:IsS F N w q s):Apart s.ps:=by
 obtain⟨b1,b2,tv,tm,h⟩:=h;exact h.apart
theorem IsS.p64 (h:IsS F N w q s): ∀p ∈ s.ps,P64 p:=by
 obtain⟨b1,b2,tv,tm,h⟩:=h;exact h.p64
theorem IsS.len (h:IsS F N w q s):s.ps.length≤N:=by
 obtain⟨b1,b2,tv,tm,h⟩:=h;exact h.len
theorem To.seq {w1 w2:World} {N1 N2:Nat} {s1 s2:St} (h:To F w w1 N1 q s1) (k:To (Fx F w w1) w1 w2 N2 q s2):To F w w2 N2 q s2:=by
 have hs1:=h.fr.size;have hs2:=k.fr.size;have fr:Fr F w w2:=⟨k.fr.os.trans h.fr.os,k.fr.tape.trans h.fr.tape,k.fr.output.trans h.fr.output,by omega,fun i hi hn=>(k.fr.block i (by omega) (fun hx=>by rcases hx with hx|hx;exact hn hx;omega)).trans (h.fr.block i hi hn)⟩
 exact⟨k.is.mono (fun i hi=>by
   rcases hi with (hi|hi)|hi
   ·exact Or.inl hi
   ·exact Or.inr ⟨hi.1,by omega⟩
   ·exact Or.inr ⟨by omega,hi.2⟩) (fun i hi=>by
    rcases hi with hi|hi
    ·exact k.is.bound i (Or.inl (Or.inl hi))
    ·exact hi.2) (Nat.le_refl _) k.is.small,fr⟩
end
end Go.Proofs.Ytjegeghigfmkoaa.T
namespace Go.Proofs.Ytjegeghigfmkoaa.T
open Go.RowKit Go.Maps Go.Sort Go.Proofs.Ytjegeghigfmkoaa.X Go.Proofs.YtjegeghigfmkoaaW.PrintWords Go.Proofs.YtjegeghigfmkoaaW.PrintLast Go.Proofs.YtjegeghigfmkoaaW.PrintMore
set_option linter.unusedVariables false
set_option linter.unusedSimpArgs false
set_option maxRecDepth 100000
variable {w w' :World} {q g c:Nat} {tm:List Int}
abbrev tv (g n c:Nat):Value:= .slice (some ⟨g,0,none⟩) n c
theorem get_list (tm:List Int) {j:Nat} (h:j<tm.length):tm.toArray[j]! =tm[j]:=by simp[h]
theorem row_holds (h:w.ownsRow 0 2 1 (tv g tm.length c) tm.length (nums .i64 tm)):Holds (Value.int .i64) w g 0 tm.toArray:=by
 intro j hj;have hj:j<tm.length:=by simpa using hj
 obtain⟨_,⟨h1,_⟩|⟨g',cap,cur,h1,_,hb,_,_,hs,hx⟩⟩:=h
 ·cases h1
 ·injection h1 with h1 _ h3
  injection h1 with h1
  injection h1 with h1
  subst h1;have e:cur.toList[j]? =some (.int .i64 tm[j]):=by
   have:=congrArg (fun l=>l[j]?) hx;simp only[Nat.mul_one,List.getElem?_take,if_pos hj,nums,List.getElem?_map,List.getElem?_eq_getElem hj] at this;exact this
  refine⟨?_,blk_frozen hb _⟩;rw[get_list tm hj,blk_cell hb,Nat.zero_add];simpa using e
theorem row_put (h:w.ownsRow 0 2 1 (tv g tm.length c) tm.length (nums .i64 tm)) {d' :Array Int} (hs:d'.size=tm.length) (n:Nat):
  ((putRow (Value.int .i64) w g 0 d').drewN n).ownsRow 0 2 1 (tv g tm.length c) tm.length (nums .i64 d'.toList)∧Fr (fun k=>k=g) w ((putRow (Value.int .i64) w g 0 d').drewN n):=by
 obtain⟨_,⟨h1,_⟩|⟨g',cap,cur,h1,hb0,hb,hn,hm,hsz,hx⟩⟩:=h
 ·cases h1
 ·injection h1 with h1 _ h3
  injection h1 with h1
  injection h1 with h1
  subst h1;refine⟨⟨by rw[nums_length,Array.length_toList,hs];omega,Or.inr ⟨g,cap,putCells (Value.int .i64) 0 d' cur,by rw[h3],hb0,?_,hn,hm,by unfold putCells;simpa using hsz,?_⟩⟩,⟨rfl,rfl,rfl,?_,fun k hk hne=> ?_⟩⟩
  ·show(w.heap.modify g (onCells (putCells (Value.int .i64) 0 d')))[g]? =_;rw[Array.getElem?_modify,if_pos rfl,hb];rfl
  ·unfold putCells;rw[Nat.mul_one] at*
   apply List.ext_getElem?;intro j;rw[List.getElem?_take];by_cases hj:j<tm.length
   ·rw[if_pos hj];have hjc:j<cur.size:=by omega
    simp only[Array.getElem?_toList,Array.getElem?_mapIdx,Array.getElem?_eq_getElem hjc,Option.map_some,nums,List.getElem?_map];rw[if_pos (by omega),Nat.sub_zero,Array.getElem?_eq_getElem (by omega),getElem!_pos d' j (by omega)];rfl
   ·rw[if_neg hj]
    symm
    rw[List.getElem?_eq_none];rw[nums_length,Array.length_toList];omega
  ·show w.heap.size≤(w.heap.modify g _).size;simp
  ·show(w.heap.modify g _)[k]? =_;rw[Array.getElem?_modify,if_neg (fun e=>hne e.symm)]
theorem info2:(Try.prog.info? 2).map (fun i=>(i.zero,i.size,i.bytes))=some (some (.int .i64 0),1,8):=by kernel_rfl
theorem app85 {w:World} {v:Value} (ho:w.ownsRow 0 2 1 v tm.length (nums .i64 tm)) (hl:tm.length≤1000000) (x:Int) (W:World) (hW:Below w.heap.size w W) (B:Nat) (hB:W.heap[B]? =some (.cells #[.int .i64 x] 2 (0,0))):
  ∃g c w2,(Builtin.append_ #[85,85] 85 #[v,.slice (some ⟨B,0,none⟩) 1 1]).run Try.prog W= .ok (tv g (tm.length+1) c) w2∧w2.ownsRow 0 2 1 (tv g (tm.length+1) c) (tm.length+1) (nums .i64 (tm++[x]))∧W.grownBy w2 v.ownBlock∧(v.ownBlock=some g∨w.heap.size≤g):=by
 obtain⟨i0,hi,hz0,hz1,hz2⟩:=info_parts info2;obtain⟨v',w2,h1,h2,h3,_,h5⟩:=run_append_own_at (P:=Try.prog) W 0 85 85 2 i0 _ 1 8 Try.underlying85 hi hz0 hz1 hz2 rfl (by decide) v tm.length (nums .i64 tm) (pw_own_below ho hW) ⟨B,0,none⟩ 1 1 [.int .i64 x] rfl (World.news_of_block (cs:= #[.int .i64 x]) (t:=2) (fr:=(0,0)) hB) (by simp[Value.oneCell']) (by unfold maxLen;omega) (by omega) (Nat.zero_le _);obtain⟨_,⟨rfl,h0⟩|⟨g,cap,cur,rfl,r⟩⟩:=id h2
 ·omega
 ·refine⟨g,cap,w2,h1,?_,h3,?_⟩
  ·simpa[nums] using h2
  ·rcases h5 with h5|h5
   ·exact Or.inl h5.symm
   ·injection h5 with h5
    have h5:g=W.heap.size:=h5;have:=hW.size;exact Or.inr (by omega)
theorem assert2 (x:Int) (w:World):(Instr.typeAssert (.iface 2 (.int .i64 x)) 20 2 false).run Try.prog w= .ok (.int .i64 x) w:=by
 simp[Instr.typeAssert,go_sem,Try.underlying2]
theorem bapp_ {P:Program} {ops:Array Oper} {Q:Exit→Act→World→Prop} {oi:Oper} {N:Option Tmp} {a:Act} {w w1:World} {v:Value} {K:Act→World→Prop} {xs:Array Operand} {ts:Array TypeId} (args:Array Value)
  (hop:oi.op= .call {callee:= .builtin .append,args:=xs,argTypes:=ts}) (hargs:xs.map a.eval=args) (hw:Region.wanted oi (yielded ops a.tmps)=true) (hN:oi.dst=N)
  (hrun:(Builtin.append_ ts oi.type args).run P w= .ok v w1) (h:K (a.put N v) w1):if Region.wanted oi (yielded ops a.tmps)=true then Oper.wp P oi a w K Q else K (a.put N undef) w:=by
 refine value_ (v:=v) (w1:=w1) hw hN ?_ h;have e:Array.map (Act.eval a) xs=args:=hargs;unfold execOp;simp[hop,resolve,invoke,e,builtin,hrun,Result.andThen]
theorem bappL_ {P:Program} {ops:Array Oper} {Q:Exit→Act→World→Prop} {rest:List Oper} {oi:Oper} {a:Act} {w w1:World} {v:Value} (N:Option Tmp) {xs:Array Operand} {ts:Array TypeId} (args:Array Value) (hd:oi.dst=N)
  (hop:oi.op= .call {callee:= .builtin .append,args:=xs,argTypes:=ts}) (hargs:xs.map a.eval=args) (hg:oi.guard=none)
  (hrun:(Builtin.append_ ts oi.type args).run P w= .ok v w1) (h:wpList P ops Q rest (a.put N v) w1):wpList P ops Q (oi::rest) a w:=by
 refine wpList_plain hg fun K hK=> ?_
 have e:Array.map (Act.eval a) xs=args:=hargs;have hr:(execOp a.eval oi).run P w= .ok (.value v) w1:=by
  unfold execOp;simp[hop,resolve,invoke,e,builtin,hrun,Result.andThen]
 unfold Oper.wp;rw[hr];subst hd;exact hK _ _ h
def Ttp.T0:Bool×List (List Nat×List Nat):=(true,[([],[]),([],[]),([1],[1]),([2],[2]),([],[]),([4],[4]),([5],[5]),([3,6],[3,6]),([0,0,1,2,3,4,5,6,7],[0]),([8,7,7,0,1,2,3,4,5,6,7],[7,8])])
def Ttp.B0:List Nat:=[0,0,2,6,0,16,48,126,255,511]
theorem Ttp.tab0:rtab .any (opsOf Try.f121 0)=Ttp.T0:=by kernel_rfl
theorem Ttp.bits0:waitsOk Ttp.T0.2 Ttp.B0=true:=by kernel_rfl
set_option maxHeartbeats 2000000 in
theorem tPush_calls {cs:Array Value} {v:Value} (h87:w.heap[q]? =some (.cells cs 87 (0,0))) (hcs:cs[5]? =some v) (ho:w.ownsRow 0 2 1 v tm.length (nums .i64 tm)) (hl:tm.length≤1000000) (x:Int):
  Calls Try.prog 121 #[.pointer (some ⟨q,5,none⟩),.iface 2 (.int .i64 x)] w fun e w'=>e= .returned (.tuple #[])∧ ∃g c,w'.heap[q]? =some (.cells (cs.setIfInBounds 5 (tv g (tm.length+1) c)) 87 (0,0))∧w'.ownsRow 0 2 1 (tv g (tm.length+1) c) (tm.length+1) (nums .i64 (tm++[x]))∧Fr (fun k=>k=q∨v.ownBlock=some k) w w'∧(v.ownBlock=some g∨w.heap.size≤g):=by
 have hqv:v.ownBlock≠some q:=fun e=>by
  obtain⟨_,⟨rfl,_⟩|⟨g',cap,cur,rfl,_,hb,_⟩⟩:=ho
  ·cases e
  ·injection e with e
   have e:g'=q:=e;rw[e,h87] at hb;cases hb
 have hB1:Below w.heap.size w (w.alloc (.cells #[.int .i64 x] 2)):=(Below.refl _ _).alloc (Nat.le_refl _) _;have hnew:=heap_alloc_new w (.cells #[.int .i64 x] 2);obtain⟨g,c,w2,hap,h2,h3,h4⟩:=app85 ho hl x ((w.alloc (.cells #[.int .i64 x] 2)).drew) (below_drew hB1) w.heap.size hnew;obtain⟨A,c0,hv⟩:=own_slice ho;have hbq:w2.heap[q]? =some (.cells cs 87 (0,0)):=(h3.block q (by have:=lt_of_block h87;have:=hB1.size;simp at this ⊢;omega) (fun e=>hqv e.symm)).trans ((hB1.block q (lt_of_block h87)).trans h87);have c5:=(blk_cell h87 5).trans hcs;have d5:=(blk_cell hbq 5).trans hcs;have e5:=pw_cell_below hB1 c5;have f5:=blk_frozen hbq 5;have HE:Aside0 (∀W,W=w2.setCell ⟨q,5,none⟩ (tv g (tm.length+1) c)→ ∃g c,W.heap[q]? =some (.cells (cs.setIfInBounds 5 (tv g (tm.length+1) c)) 87 (0,0))∧W.ownsRow 0 2 1 (tv g (tm.length+1) c) (tm.length+1) (nums .i64 (tm++[x]))∧Fr (fun k=>k=q∨v.ownBlock=some k) w W∧(v.ownBlock=some g∨w.heap.size≤g)):=⟨fun W e=>by
  subst e;refine⟨g,c,blk_set hbq 5 _,own_setCell h2 (fun e=> ?_) _,?_,h4⟩
  ·injection e with e
   have e:q=g:=e;rcases h4 with h4|h4
   ·rw[←e] at h4;exact hqv h4
   ·have:=lt_of_block h87;omega
  ·refine Fr.setCell ?_ (Or.inl rfl) _;refine Fr.grown (b:=(w.alloc (.cells #[.int .i64 x] 2)).drew) (Fr.of_below (below_drew hB1)) h3 (fun j hj=>Or.inl (Or.inr hj))⟩
 subst hv;generalize tm.length=n at*
 clear h87 hcs ho hqv hB1 hnew h2 h3 h4 hbq;have hta:=assert2 x;go_enter Try.func121,Try.ntmps121;go_wp2_with fail;have HN:=Aside0.mk (And.intro c5 (And.intro d5 (And.intro e5 f5)));refine start_ (n:=10) (S:=fun w'=>w'.cell? ⟨q,5,none⟩=some (.slice A n c0)) (ds:=[9]) #[false,false,false,false,false,false,false,false,false,false] (by kernel_rfl) rfl rfl c5 (fun hHeld=> ?_);refine with_tabW Ttp.tab0 Ttp.bits0 (fun HT_ HW_=> ?_);refine pure_ (i:=0) (N:=some 4) (v:= ?_) (a' := ?_) #[true,false,false,false,false,false,false,false,false,false] rfl rfl (any_of HT_.out (by kernel_rfl)) (fun _ _ _ h=>h) (Or.inl ⟨by rfl,?_⟩) ?_ ?_;rotate_left
 ·intro w';go_simp
  with_reducible rfl
 rotate_left
 ·simp only[Act.put,List.setIfInBounds_toArray,List.set_cons_zero,List.set_cons_succ,i64_w,i32_w];rfl
 refine pure_ (i:=1) (N:=some 5) (v:= ?_) (a' := ?_) #[true,true,false,false,false,false,false,false,false,false] rfl rfl (any_of HT_.out (by kernel_rfl)) (fun _ _ _ h=>h) (Or.inl ⟨by rfl,?_⟩) ?_ ?_;rotate_left
 ·intro w';go_simp
  with_reducible rfl
 rotate_left
 ·simp only[Act.put,List.setIfInBounds_toArray,List.set_cons_zero,List.set_cons_succ,i64_w,i32_w];rfl
 refine pure_ (i:=2) (N:=some 6) (v:= ?_) (a' := ?_) #[true,true,true,false,false,false,false,false,false,false] rfl rfl (any_of HT_.out (by kernel_rfl)) (fun _ _ _ h=>h) (Or.inl ⟨by rfl,?_⟩) ?_ ?_;rotate_left
 ·intro w';go_simp
  with_reducible rfl
 rotate_left
 ·simp only[Act.put,List.setIfInBounds_toArray,List.set_cons_zero,List.set_cons_succ,i64_w,i32_w];rfl
 refine take_ (i:=3) (N:=some 7) (v:= ?_) (a' := ?_) #[true,true,true,true,false,false,false,false,false,false] rfl rfl (take_ofW HT_.out HW_.out (by kernel_rfl)) (fun _ _ _ h=>h) (Or.inl ⟨by rfl,?_⟩) hHeld ?_ ?_;rotate_left
 ·rintro w' s0;go_simp
  with_reducible rfl
 rotate_left
 ·simp only[Act.put,List.setIfInBounds_toArray,List.set_cons_zero,List.set_cons_succ,i64_w,i32_w];rfl
 refine pure_ (i:=4) (N:=some 8) (v:= ?_) (a' := ?_) #[true,true,true,true,true,false,false,false,false,false] rfl rfl (any_of HT_.out (by kernel_rfl)) (fun _ _ _ h=>h) (Or.inl ⟨by rfl,?_⟩) ?_ ?_;rotate_left
 ·intro w';go_simp
  with_reducible rfl
 rotate_left
 ·simp only[Act.put,List.setIfInBounds_toArray,List.set_cons_zero,List.set_cons_succ,i64_w,i32_w];rfl
 refine pure_ (i:=5) (N:=some 9) (v:= ?_) (a' := ?_) #[true,true,true,true,true,true,false,false,false,false] rfl rfl (any_of HT_.out (by kernel_rfl)) (fun _ _ _ h=>h) (Or.inl ⟨by rfl,?_⟩) ?_ ?_;rotate_left
 ·intro w';go_simp
  with_reducible rfl
 rotate_left
 ·simp only[Act.put,List.setIfInBounds_toArray,List.set_cons_zero,List.set_cons_succ,i64_w,i32_w];rfl
 refine one_ (i:=6) (N:=some 10) #[true,true,true,true,true,true,true,false,false,false] rfl rfl (one_of HT_.out (by kernel_rfl)) (by decide) (fun K hK=> ?_);refine value_ (v:= .slice (some ⟨w.heap.size,0,none⟩) 1 1) (w1:=(w.drew).alloc (.cells #[.int .i64 x] 2)) (by rfl) rfl ?_ ?_
 ·go_simp
  first|done|rfl|simp[Result.andThen]
 refine hK.out _ _ HN.out.2.2.1 (fun hHeld=> ?_);clear hK K;refine norm_ (a' := ?_) ?_ ?_;rotate_left
 ·show Act.put _ (some 10) _=_;simp only[Act.put,List.setIfInBounds_toArray,List.set_cons_zero,List.set_cons_succ,i64_w,i32_w];rfl
 refine one_ (i:=7) (N:=some 11) #[true,true,true,true,true,true,true,true,false,false] rfl rfl (one_of HT_.out (by kernel_rfl)) (by decide) (fun K hK=> ?_);refine bapp_ #[.slice A n c0,.slice (some ⟨w.heap.size,0,none⟩) 1 1] (by rfl) (by(try simp only[List.map_toArray,List.map_cons,List.map_nil]);first|done|rfl) (by rfl) rfl hap ?_;refine hK.out _ _ d5 (fun hHeld=> ?_);clear hK K;refine norm_ (a' := ?_) ?_ ?_;rotate_left
 ·show Act.put _ (some 11) _=_;simp only[Act.put,List.setIfInBounds_toArray,List.set_cons_zero,List.set_cons_succ,i64_w,i32_w];rfl
 refine pure_ (i:=8) (N:=some 12) (v:= ?_) (a' := ?_) #[true,true,true,true,true,true,true,true,true,false] rfl rfl (any_of HT_.out (by kernel_rfl)) (fun _ _ _ h=>h) (Or.inl ⟨by rfl,?_⟩) ?_ ?_;rotate_left
 ·intro w';go_simp
  with_reducible rfl
 rotate_left
 ·simp only[Act.put,List.setIfInBounds_toArray,List.set_cons_zero,List.set_cons_succ,i64_w,i32_w];rfl
 refine last_ (i:=9) (N:=none) #[true,true,true,true,true,true,true,true,true,true] rfl rfl (one_of HT_.out (by kernel_rfl)) (by decide) (fun K hK=> ?_);refine skip_ (w1:=w2.setCell ⟨q,5,none⟩ (tv g (n+1) c)) (by rfl) rfl ?_ ?_
 ·go_simp
  first|done|rfl|simp[Result.andThen]
 refine hK.out _ _ ?_;clear hK K;refine done_ (done_of HT_.out (by kernel_rfl)) ?_;go_wp2
 first|go_end0|((try simp only[Exit.inBlock,Exit.then]);refine bodyPost_ret (results_none rfl _ _ _) rfl ?_)
 exact⟨rfl,HE.out _ rfl⟩
theorem toArr (tm:List Int) (x:Int):(tm++[x]).toArray=tm.toArray.push x:=by simp
set_option maxHeartbeats 2000000 in
theorem hPush_calls {cs:Array Value} {v:Value} (h87:w.heap[q]? =some (.cells cs 87 (0,0))) (hcs:cs[5]? =some v) (hc7:cs.size=7) (ho:w.ownsRow 0 2 1 v tm.length (nums .i64 tm)) (hh:Hp tm.length tm.toArray) (hl:tm.length≤1000000) (x:Int):
  Calls Try.prog 72 #[hv q,.iface 2 (.int .i64 x)] w fun e w'=>e= .returned (.tuple #[])∧ ∃tv' tm',w'.heap[q]? =some (.cells (cs.setIfInBounds 5 tv') 87 (0,0))∧w'.ownsRow 0 2 1 tv' tm'.length (nums .i64 tm')∧Hp tm'.length tm'.toArray∧tm'.Perm (x::tm)∧Fr (fun k=>k=q∨v.ownBlock=some k) w w'∧(∀g,tv'.ownBlock=some g→v.ownBlock=some g∨w.heap.size≤g):=by
 have K1:=tPush_calls h87 hcs ho hl x;have HV:Aside0 (∀k,v.ownBlock=some k→k<w.heap.size):=⟨fun k hk=>own_lt ho k hk⟩
 have m1:=mth_ptr rowPush ⟨q,5,none⟩ w;have f121:=e121;have f117:=e117;have HH:=Aside0.mk hh;have HQ:=Aside0.mk (lt_of_block h87);obtain⟨n,hn⟩: ∃n,tm.length=n:=⟨_,rfl⟩
 have HNn:=Aside0.mk hn;have hn0:n≤1000000:=by omega
 have hwr:wrap64 (((n+1:Nat):Int)-1)=(n:Int):=by unfold wrap64;omega
 rw[hn] at K1;clear h87 ho hh hl hn;go_enter Try.func72,Try.ntmps72;go_wp2_with (first|(go_at_call 121;refine K1.mono ?_;rintro e w1 ⟨rfl,g,c,h1,h2,h3,h4⟩;clear K1));have c5:w1.cell? ⟨q,5,none⟩=some (tv g (n+1) c):=(blk_cell h1 5).trans (by simp[hc7]);have hlen:(tm++[x]).length=n+1:=by rw[List.length_append,HNn.out];rfl
 have hqg:q≠g:=by
  have:=own_ne h2 h1 (by decide);exact fun e=>this (by rw[e];rfl)
 rw[←hlen] at h2;have hT:Tw w1 q g c (tm++[x]).toArray:=⟨by rw[List.size_toArray,hlen];exact c5,hqg,row_holds h2⟩
 have hup:=up_calls hT (by rw[List.size_toArray,hlen];omega) n (by rw[List.size_toArray,hlen];omega) (by
  have t:=hp_push (d:=tm.toArray) (by have:=HH.out;rwa [List.size_toArray]) x;have e:tm.toArray.size=n:=by rw[List.size_toArray,HNn.out]
  rw[e,←toArr] at t;exact t)
 have m2:=mth_val rowLen c5;have K2:=Len_calls (some ⟨g,0,none⟩) (n+1) c w1;have H1:=Aside0.mk h1;have H2:=Aside0.mk h2;have H3:=Aside0.mk h3;have H4:=Aside0.mk h4;have HT:=Aside0.mk hT;have HL:=Aside0.mk hlen;clear h1 h2 h3 h4 hT hlen;go_wp2_with (first|(go_at_call 117;refine K2.mono ?_;rintro e w1_ ⟨rfl,rfl⟩;clear K2)|(go_at_call 89;refine hup.mono ?_;rintro e w2 ⟨rfl,d',m,rfl,hs,hp,hh⟩;clear hup))
 first|go_end0|((try simp only[Exit.inBlock,Exit.then]);refine bodyPost_ret (results_none rfl _ _ _) rfl ?_)
 rw[List.size_toArray] at hs hh;obtain⟨r1,r2⟩:=row_put H2.out hs m;have hdl:d'.toList.length=(tm++[x]).length:=by rw[Array.length_toList];exact hs
 refine⟨rfl,tv g (tm++[x]).length c,d'.toList,?_,?_,?_,?_,?_,fun g' hg'=> ?_⟩
 ·rw[HL.out];exact(r2.block q (lt_of_block H1.out) (fun e=>hqg e)).trans H1.out
 ·rw[hdl];exact r1
 ·rw[hdl];simpa using hh
 ·refine hp.trans ?_;exact List.perm_append_singleton _ _
 ·have:=H3.out;have hg:=H4.out;refine⟨r2.os.trans this.os,r2.tape.trans this.tape,r2.output.trans this.output,Nat.le_trans this.size r2.size,fun k hk hn=> ?_⟩;refine(r2.block k (Nat.lt_of_lt_of_le hk this.size) (fun e=> ?_)).trans (this.block k hk hn);have e:k=g:=e;subst e;rcases hg with hg|hg
  ·exact hn (Or.inr hg)
  ·omega
 ·injection hg' with hg'
  have hg' :g=g' :=hg';subst hg';exact H4.out
theorem tPop_calls {cs:Array Value} {n:Nat} {x:Int} (h87:w.heap[q]? =some (.cells cs 87 (0,0))) (hcs:cs[5]? =some (tv g (n+1) c)) (hx:w.cell? ⟨g,n,none⟩=some (.int .i64 x)) (hn:n≤1000000) (hnc:n+1≤c):
  Calls Try.prog 120 #[.pointer (some ⟨q,5,none⟩)] w fun e w'=>e= .returned (.iface 2 (.int .i64 x))∧w'=w.setCell ⟨q,5,none⟩ (tv g n c):=by
 have c5:=(blk_cell h87 5).trans hcs;have f5:=blk_frozen h87 5;have hw:wrap64 (((n+1:Nat):Int)-1)=(n:Int):=by unfold wrap64;omega
 have hsl:(Instr.slice 85 (tv g (n+1) c) none (some (.int .i64 (n:Int))) none).run Try.prog w= .ok (tv g n c) w:=by
  have h1:(Instr.sliceBounds true (n+1) c none (some (.int .i64 (n:Int))) none).run Try.prog w= .ok (0,n,c) w:=by
   unfold Instr.sliceBounds;simp[run_sliceBound,show n≤c by omega,Result.andThen]
  unfold Instr.slice;simp[run_underlying Try.underlying85,h1,Result.andThen,Try.sizeOf2,Addr.add]
 have hin:(n:Int)<(n:Int)+1:=by omega
 clear h87 hcs;go_enter Try.func120,Try.ntmps120;go_wp2;go_ret;exact⟨rfl,rfl⟩
theorem own_cut {n:Nat} {xs:List Int} (h:w.ownsRow 0 2 1 (tv g (n+1) c) (n+1) (nums .i64 xs)):w.ownsRow 0 2 1 (tv g n c) n (nums .i64 (xs.take n)):=by
 obtain⟨hl,⟨h1,_⟩|⟨g',cap,cur,h1,hb0,hb,hn,hm,hsz,hx⟩⟩:=h
 ·cases h1
 ·injection h1 with h1 _ h3
  injection h1 with h1
  injection h1 with h1
  subst h1 h3;refine⟨?_,Or.inr ⟨g,c,cur,rfl,hb0,hb,by omega,hm,hsz,?_⟩⟩
  ·rw[nums_length] at hl ⊢;rw[List.length_take];omega
  ·have:=congrArg (List.take n) hx;rw[List.take_take] at this;rw[Nat.mul_one] at*
   rw[show min n (n+1)=n by omega] at this;rw[this];simp[nums,List.map_take]
set_option maxHeartbeats 2000000 in
theorem hPop_calls {cs:Array Value} {n:Nat} (h87:w.heap[q]? =some (.cells cs 87 (0,0))) (hcs:cs[5]? =some (tv g (n+1) c)) (hc7:cs.size=7) (hl:tm.length=n+1) (ho:w.ownsRow 0 2 1 (tv g (n+1) c) (n+1) (nums .i64 tm)) (hh:Hp (n+1) tm.toArray) (hn:n≤1000000):
  Calls Try.prog 53 #[hv q] w fun e w'=>(∃v,e= .returned v)∧ ∃tm',w'.heap[q]? =some (.cells (cs.setIfInBounds 5 (tv g n c)) 87 (0,0))∧tm'.length=n∧w'.ownsRow 0 2 1 (tv g n c) n (nums .i64 tm')∧Hp n tm'.toArray∧tm.Perm (tm.toArray[0]! ::tm')∧Fr (fun k=>k=q∨k=g) w w' :=by
 have c5:=(blk_cell h87 5).trans hcs;have hqg:q≠g:=by
  have:=own_ne ho h87 (by decide);exact fun e=>this (by rw[e];rfl)
 have hd0:tm.toArray.size=n+1:=by rw[List.size_toArray,hl]
 have ho' :w.ownsRow 0 2 1 (tv g tm.length c) tm.length (nums .i64 tm):=by rw[hl];exact ho
 have hH:=row_holds ho';have hS:=Swap_calls g c tm.toArray w hH 0 n (by omega) (by omega);have m1:=mth_val rowLen c5;have m2:=mth_val rowSwap c5;have K1:=Len_calls (some ⟨g,0,none⟩) (n+1) c w;have f117:=e117;have f119:=e119;have f120:=e120;have hwr:wrap64 (((n+1:Nat):Int)-1)=(n:Int):=by unfold wrap64;omega
 rw[hd0] at hS;have hz:((0:Nat):Int)=0:=rfl;rw[hz] at hS;have HD:=Aside0.mk hd0;have HO:=Aside0.mk ho';have HC:=Aside0.mk (And.intro h87 (And.intro hcs (And.intro hc7 hl)));have HQ:=Aside0.mk hqg;have HH:=Aside0.mk hh;clear h87 hcs hc7 hl ho hh hqg hd0 ho' hH hz;go_enter Try.func53,Try.ntmps53;go_wp2_with (first|(go_at_call 117;refine K1.mono ?_;rintro e w1_ ⟨rfl,hww⟩;subst w1_;clear K1)|(go_at_call 119;refine hS.mono ?_;rintro e w1 ⟨rfl,m,rfl⟩;clear hS));obtain⟨r1,r2⟩:=row_put HO.out (d' :=swp tm.toArray 0 n) (by rw[swp_size',List.size_toArray]) m;generalize hw1:(putRow (Value.int .i64) w g 0 (swp tm.toArray 0 n)).drewN m=w1 at r1 r2 ⊢;clear hw1 m1 m2 c5;have h1:w1.heap[q]? =some (.cells cs 87 (0,0)):=(r2.block q (lt_of_block HC.out.1) (fun e=>HQ.out e)).trans HC.out.1;have c5:=(blk_cell h1 5).trans HC.out.2.1;obtain⟨d1,hd1⟩: ∃d,swp tm.toArray 0 n=d:=⟨_,rfl⟩
 have hs1:d1.size=n+1:=by rw[←hd1,swp_size',HD.out]
 have hdn:HpDn n 0 d1:=by
  rw[←hd1];exact hp_pop (by rw[HD.out];exact HH.out) HD.out
 rw[hd1] at r1;have r1' :w1.ownsRow 0 2 1 (tv g d1.toList.length c) d1.toList.length (nums .i64 d1.toList):=by
  have e:d1.toList.length=tm.length:=by rw[Array.length_toList,hs1,HC.out.2.2.2]
  rw[e];exact r1
 have hT:Tw w1 q g c d1:=⟨by rw[hs1];exact c5,HQ.out,by have:=row_holds r1';simpa using this⟩
 have K2:=down_calls hT (by omega) (N:=n) (by omega) hdn;have m3:=fun W=>mth_ptr rowPop ⟨q,5,none⟩ W
 have HP:Aside0 (d1.toList.Perm tm∧d1[n]! =tm.toArray[0]!):=⟨by
  rw[←hd1];refine⟨swp_perm _ (by rw[HD.out];omega) (by rw[HD.out];omega),?_⟩;rw[swpI (by rw[HD.out];omega) (by rw[HD.out];omega),if_pos rfl]⟩
 have H1:=Aside0.mk h1;have HR1:=Aside0.mk r1';have HR2:=Aside0.mk r2;have HS1:=Aside0.mk hs1;clear h1 r1 r1' r2 hs1 hdn hT hd1 c5;go_wp2_with (first|(go_at_call 76;refine K2.mono ?_;rintro e w2_ ⟨⟨b,rfl⟩,d2,m2,rfl,h2s,h2p,h2h,h2l⟩;clear K2));obtain⟨s1,s2⟩:=row_put HR1.out (d' :=d2) (by rw[Array.length_toList];exact h2s) m2;generalize hw2:(putRow (Value.int .i64) w1 g 0 d2).drewN m2=w2 at s1 s2 ⊢;clear hw2;have e2:d1.toList.length=n+1:=by rw[Array.length_toList,HS1.out]
 rw[e2] at s1;have h2:w2.heap[q]? =some (.cells cs 87 (0,0)):=(s2.block q (lt_of_block H1.out) (fun e=>HQ.out e)).trans H1.out;have hx:w2.cell? ⟨g,n,none⟩=some (.int .i64 d2[n]!):=by
  have s1' :w2.ownsRow 0 2 1 (tv g d2.toList.length c) d2.toList.length (nums .i64 d2.toList):=by
   rw[Array.length_toList,h2s,HS1.out];exact s1
  have:=(row_holds s1' n (by rw[List.size_toArray,Array.length_toList,h2s,HS1.out];omega)).1;rw[Nat.zero_add] at this;simpa using this
 have hnc:n+1≤c:=by
  obtain⟨_,⟨h1,_⟩|⟨g',cap,cur,h1,_,_,hn,_⟩⟩:=s1
  ·cases h1
  ·injection h1 with _ _ h3;omega
 have K3:=tPop_calls h2 HC.out.2.1 hx hn hnc;have HF:Aside0 (∃tm',(w2.setCell ⟨q,5,none⟩ (tv g n c)).heap[q]? =some (.cells (cs.setIfInBounds 5 (tv g n c)) 87 (0,0))∧tm'.length=n∧(w2.setCell ⟨q,5,none⟩ (tv g n c)).ownsRow 0 2 1 (tv g n c) n (nums .i64 tm')∧Hp n tm'.toArray∧tm.Perm (tm.toArray[0]! ::tm')∧Fr (fun k=>k=q∨k=g) w (w2.setCell ⟨q,5,none⟩ (tv g n c))):=⟨by
  have hd2l:d2.toList.length=n+1:=by rw[Array.length_toList,h2s,HS1.out]
  have hd2s:d2.size=n+1:=h2s.trans HS1.out;refine⟨d2.toList.take n,blk_set h2 5 _,by rw[List.length_take];omega,own_setCell (own_cut s1) (fun e=>by injection e with e;exact HQ.out e) _,?_,?_,?_⟩
  ·intro i h0 hi;have G: ∀k,k<n→(d2.toList.take n).toArray[k]! =d2[k]! :=fun k hk=>by
    rw[get_list _ (by rw[List.length_take];omega),getElem!_pos d2 k (by omega)];simp
   rw[G _ (by have:=par_lt h0;omega),G _ hi];exact h2h i h0 hi
  ·have e:d2.toList=d2.toList.take n++[d2[n]!]:=by
    have h3:d2.toList.drop n=[d2[n]!]:=by
     rw[List.drop_eq_getElem_cons (by omega),List.drop_of_length_le (by omega),getElem!_pos d2 n (by omega)];simp
    rw[←h3,List.take_append_drop]
   have p1:d2.toList.Perm tm:=h2p.trans HP.out.1;rw[e,h2l,HP.out.2] at p1;exact p1.symm.trans (List.perm_append_singleton _ _)
  ·refine Fr.setCell ?_ (Or.inl rfl) _;exact(HR2.out.mono (fun k _ hk=>Or.inr hk)).trans (s2.mono (fun k _ hk=>Or.inr hk))⟩
 clear s1 s2 h2 hx h2p h2h h2l HP;go_wp2_with (first|(go_at_call 120;refine K3.mono ?_;rintro e w3 ⟨rfl,rfl⟩;clear K3));go_ret;exact⟨⟨_,rfl⟩,HF.out⟩
end Go.Proofs.Ytjegeghigfmkoaa.T
namespace Go.Proofs.Ytjegeghigfmkoaa.T
open Go.RowKit Go.Maps Go.Sort Go.Proofs.Ytjegeghigfmkoaa.X Go.Proofs.YtjegeghigfmkoaaW.PrintWords Go.Proofs.YtjegeghigfmkoaaW.PrintLast Go.Proofs.YtjegeghigfmkoaaW.PrintMore
set_option linter.unusedVariables false
set_option linter.unusedSimpArgs false
set_option maxRecDepth 100000
variable {F:Nat→Prop} {N:Nat} {w w' :World} {q b1 b2:Nat} {tv:Value} {tm:List Int} {s:St}
theorem IsT.look (h:IsT F N w q b1 b2 tv tm s) {p:S70} (hp:P64 p):(Instr.lookup 82 (.map (some b1)) (keyV p) true).run Try.prog w= .ok (.tuple #[.int .i64 (accP p s.ps),.bool (hasP p s.ps)]) w:=by
 obtain⟨D,m1,a1⟩:=h.all;obtain⟨v,ps,hrun,hv⟩:=m1.look_ok keyed98 Try.underlying82 (Try.zeroValue2 w) (zd:= .lit (.int .i64 0)) (zp:=[]) rfl (keyOf98 hp);rw[a1.acc h.p64 hp] at hv;obtain⟨c,rfl,e,_⟩:=plainElem_int_inv Try.underlying2 hv;injection e with e _
 injection e with e
 injection e with _ e
 rw[a1.hasP h.p64 hp,←e] at hrun;exact hrun
theorem IsT.end_ (h:IsT F N w q b1 b2 tv tm s) {t:Int} (ht:I64 t):(Instr.lookup 83 (.map (some b2)) (.int .i64 t) false).run Try.prog w= .ok (.int .i64 (cnt t s.ps)) w:=by
 obtain⟨D,m2,a2⟩:=h.ends;obtain⟨v,hrun,hat,_⟩:=m2.lookup_int keyed2 Try.underlying83 Try.underlying3 (Try.zeroValue3 w) (keyOf_int_mk Try.underlying2 (i64_wf.2 ht));rw[a2.at_ t] at hat;injection hat with e
 injection e with _ e
 rw[←e] at hrun;exact hrun
set_option maxHeartbeats 2000000 in
theorem Len_st (h:IsS F N w q s):Calls Try.prog 26 #[.pointer (some ⟨q,0,none⟩)] w fun e w'=>e= .returned (.int .i64 s.ps.length)∧w'=w:=by
 obtain⟨b1,b2,tv,tm,h⟩:=h;obtain⟨D,m1,a1⟩:=h.all;have hl:=m1.len Try.underlying82 3;obtain⟨c0,c1,c2,c3,c4,c5,c6⟩:=h.cells;rw[a1.size] at hl;clear h m1 a1;go_enter Try.func26,Try.ntmps26;go_wp2;go_ret;exact⟨rfl,rfl⟩
theorem k98 (p:S70):keyV p= .agg #[.int .i64 p.f0,.int .i64 p.f1.f0,.int .i64 p.f1.f1]:=rfl
theorem i64_small {n:Int} (h0:0≤n) (h1:n≤2000000):I64 n:=by unfold I64;omega
theorem IsT.upd_end (h:IsT F N w q b1 b2 tv tm s) {t n:Int} (ht:I64 t) (hn:I64 n): ∃w',(Instr.mapUpdate 83 (.map (some b2)) (.int .i64 t) (.int .i64 n)).run Try.prog w= .ok () w'∧w.grownBy w' (some b2)∧ ∀ps',(∀u,(cnt u ps' :Int)=if u=t then n else cnt u s.ps)→ ∃D,w'.ownsMap Try.prog 2 RE b2 (N+1) D∧Ed D ps' :=by
 obtain⟨D,m2,a2⟩:=h.ends;obtain⟨w',hrun,hown,hg⟩:=m2.update keyed2 Try.underlying83 (by have:=h.small;unfold maxLen;omega) (keyOf_int_mk Try.underlying2 (i64_wf.2 ht)) (plainElem_int (H:=Unit) Try.underlying3 (i64_wf.2 hn));exact⟨w',hrun,hg,fun ps' he=>⟨_,hown,a2.put t n he⟩⟩
theorem upd_all {D:DU} (m1:w.ownsMap Try.prog 98 RA b1 N D) (a1:Al D s.ps) (hsm:N≤1000000) (hap:Apart s.ps) (h64: ∀x ∈ s.ps,P64 x) {p:S70} (hp:P64 p): ∃w',(Instr.mapUpdate 82 (.map (some b1)) (keyV p) (.int .i64 p.f2)).run Try.prog w= .ok () w'∧w.grownBy w' (some b1)∧ ∃D,w'.ownsMap Try.prog 98 RA b1 (N+1) D∧Al D (layP p s.ps):=by
 obtain⟨w',hrun,hown,hg⟩:=m1.update keyed98 Try.underlying82 (by unfold maxLen;omega) (keyOf98 hp) (plainElem_int (H:=Unit) Try.underlying2 (i64_wf.2 hp.a));exact⟨w',hrun,hg,_,hown,a1.put hap h64 hp⟩
theorem Fr.of_grown {M:Nat→Prop} {a b:World} {row:Option Nat} (k:a.grownBy b row) (hr: ∀j,row=some j→M j):Fr M a b:=
 ⟨k.os,k.tape,k.output,k.size,fun i hi hn=>k.block i hi (fun e=>hn (hr i e.symm))⟩
theorem Fr.undrew {M:Nat→Prop} {a b:World} (h:Fr M a.drew b):Fr M a b:=⟨h.os,h.tape,h.output,h.size,h.block⟩
theorem layP_64 {ps:List S70} (h: ∀x ∈ ps,P64 x) {p:S70} (hp:P64 p): ∀x ∈ layP p ps,P64 x:=fun x hx=>by
 rcases List.mem_cons.1 hx with rfl|hx
 ·exact hp
 ·exact h x (mem_outP.1 hx).1
theorem lay_done (H:IsT F N w q b1 b2 tv tm s) (hN:N<1000000) {p:S70} (hp:P64 p) {w4:World} {tv4:Value} {tm4:List Int} (hB4:Fr F w w4)
  (hQ4:w4.heap[q]? =some (.cells #[.int .i64 s.kind,.int .i64 s.size,.int .i64 s.slide,.int .i64 s.a,.map (some b1),tv4,.map (some b2)] 87 (0,0)))
  (hA4: ∃D,w4.ownsMap Try.prog 98 RA b1 N D∧Al D s.ps) (hE4: ∃D,w4.ownsMap Try.prog 2 RE b2 (N+1) D∧Ed D (layP p s.ps)) (hT4:w4.ownsRow 0 2 1 tv4 tm4.length (nums .i64 tm4)) (hh:Hp tm4.length tm4.toArray)
  (hl:tm4.length≤N+1) (hlast: ∀x ∈ layP p s.ps,lastP x ∈ tm4) (h644: ∀x ∈ tm4,I64 x) (hb4: ∀g,tv4.ownBlock=some g→F g∨w.heap.size≤g):
  ∃w5,(Instr.mapUpdate 82 (.map (some b1)) (keyV p) (.int .i64 p.f2)).run Try.prog w4.drew= .ok () w5∧To F w w5 (N+1) q {s with ps:=layP p s.ps}:=by
 obtain⟨D,m1,a1⟩:=hA4;obtain⟨w5,hrun,hg,D',m1',a1'⟩:=upd_all (w:=w4.drew) m1 a1 H.small H.apart H.p64 hp;have f5:Fr (fun k=>k=b1) w4 w5:=Fr.undrew (Fr.of_grown (a:=w4.drew) hg (fun j e=>(Option.some.inj e).symm));obtain⟨D2,m2,a2⟩:=hE4;have hgb: ∀g,tv4.ownBlock=some g→g≠b1:=fun g hg e=>by
  obtain⟨_,⟨rfl,_⟩|⟨g',cap,cur,rfl,_,hc,_⟩⟩:=hT4
  ·cases hg
  ·injection hg with hg
   have hg:g'=g:=hg;obtain⟨es,c,hb,_⟩:=m1;have hb:w4.heap[b1]? =some (.map es c):=hb;rw[←e,←hg,hc] at hb;cases hb
 have hs4:=hB4.size;have hs5:=f5.size;have fr:Fr F w w5:=⟨f5.os.trans hB4.os,f5.tape.trans hB4.tape,f5.output.trans hB4.output,by omega,fun k hk hn=>(f5.block k (by omega) (fun e=>hn (e▸H.f1))).trans (hB4.block k hk hn)⟩
 refine⟨w5,hrun,⟨⟨b1,b2,tv4,tm4,⟨(f5.block q (lt_of_block hQ4) H.qne1).trans hQ4,⟨D',m1',a1'⟩,⟨D2,map_fr m2 f5 (fun e=>H.ne e.symm),a2⟩,own_fr hT4 f5 hgb,hh,hl,hlast,h644,Or.inl H.fq,Or.inl H.f1,Or.inl H.f2,fun g hg=> ?_,H.ne,H.apart.lay p,layP_64 H.p64 hp,by omega,Fx.bound H.bound fr.size,?_⟩⟩,fr⟩⟩
 ·rcases hb4 g hg with h|h
  ·exact Or.inl h
  ·exact Or.inr ⟨h,Nat.lt_of_lt_of_le (own_lt hT4 g hg) hs5⟩
 ·have:=len_lay p s.ps;have:=H.len;show(layP p s.ps).length≤N+1;omega
def Tlay.T5:Bool×List (List Nat×List Nat):=(true,[([],[]),([0],[0]),([1],[1]),([2],[2]),([],[]),([4],[4]),([5],[5]),([6],[6]),([7],[7]),([3,8],[3,8])])
def Tlay.B5:List Nat:=[0,1,3,7,0,16,48,112,240,511]
theorem Tlay.tab5:rtab .any (opsOf Try.f45 5)=Tlay.T5:=by kernel_rfl
theorem Tlay.bits5:waitsOk Tlay.T5.2 Tlay.B5=true:=by kernel_rfl
set_option maxHeartbeats 4000000 in
theorem lay_calls (h:IsS F N w q s) (hN:N<1000000) (p:S70) (hp:P64 p):Calls Try.prog 45 #[.pointer (some ⟨q,0,none⟩),.agg #[.int .i64 p.f0,.int .i64 p.f1.f0,.int .i64 p.f1.f1,.int .i64 p.f2]] w fun e w'=>e= .returned (.tuple #[])∧To F w w' (N+1) q {s with ps:=layP p s.ps}:=by
 obtain⟨b1,b2,tv,tm,h⟩:=h;have H:=Aside0.mk h;have HP:=Aside0.mk hp;have HN:=Aside0.mk hN;clear h hp hN;go_enter Try.func45,Try.ntmps45;go_wp2_with fail;have HB1:=Aside0.mk (((Below.refl w.heap.size w).alloc (Nat.le_refl _) (.cells #[.int .i64 p.f0,.int .i64 p.f1.f0,.int .i64 p.f1.f1,.int .i64 p.f2] 70)).alloc (by simp) (.cells #[.int .i64 p.f0,.int .i64 p.f1.f0,.int .i64 p.f1.f1] 98));have HKP:=Aside0.mk (blk_below (heap_alloc_new w (.cells #[.int .i64 p.f0,.int .i64 p.f1.f0,.int .i64 p.f1.f1,.int .i64 p.f2] 70)) ((Below.refl _ _).alloc (Nat.le_refl _) (.cells #[.int .i64 p.f0,.int .i64 p.f1.f0,.int .i64 p.f1.f1] 98)));have HKK:=Aside0.mk (heap_alloc_new (w.alloc (.cells #[.int .i64 p.f0,.int .i64 p.f1.f0,.int .i64 p.f1.f1,.int .i64 p.f2] 70)) (.cells #[.int .i64 p.f0,.int .i64 p.f1.f0,.int .i64 p.f1.f1] 98));have hsz1:(w.alloc (.cells #[.int .i64 p.f0,.int .i64 p.f1.f0,.int .i64 p.f1.f1,.int .i64 p.f2] 70)).heap.size=w.heap.size+1:=by simp
 rw[hsz1] at HKK;generalize hw1:((w.alloc (.cells #[.int .i64 p.f0,.int .i64 p.f1.f0,.int .i64 p.f1.f1,.int .i64 p.f2] 70)).alloc (.cells #[.int .i64 p.f0,.int .i64 p.f1.f0,.int .i64 p.f1.f1] 98))=w1 at HB1 HKP HKK ⊢;clear hw1 hsz1;have H1:=Aside0.mk (H.out.below HB1.out);obtain⟨c0,c1,c2,c3,c4,c5,c6⟩:=H1.out.cells;have k0:=(blk_cell HKK.out 0).trans rfl;have k1:=(blk_cell HKK.out 1).trans rfl;have k2:=(blk_cell HKK.out 2).trans rfl;have hlook:=H1.out.look HP.out;have hlook' :=(H1.out.below (below_drew (Below.refl _ _))).look HP.out;rw[k98] at hlook hlook';clear c0 c1 c2 c3 c5 c6;go_region;have HB2:=Aside0.mk (below_drew HB1.out);have HKP2:=Aside0.mk (blk_drew HKP.out);have HKK2:=Aside0.mk (blk_drew HKK.out);have H2:=Aside0.mk (H1.out.below (below_drew (Below.refl _ _)));clear c4 k0 k1 k2 hlook hlook' HB1 HKP HKK H1;generalize w1.drew=w2 at HB2 HKP2 HKK2 H2 ⊢;clear w1;have HLT:=Aside0.mk (And.intro (H.out.bound q H.out.fq) (And.intro (H.out.bound b1 H.out.f1) (H.out.bound b2 H.out.f2)));cases hhas:hasP p s.ps with
 | false=>
  have HH:=Aside0.mk hhas;obtain⟨c0,c1,c2,c3,c4,c5,c6⟩:=H2.out.cells;have p2:=(blk_cell HKP2.out 2).trans rfl;have hend:=H2.out.end_ (last_in p);have hend' :=(H2.out.below (below_drew (Below.refl _ _))).end_ (last_in p);have hcn:cnt (lastP p) s.ps≤1000000:=Nat.le_trans (cnt_le _ _) (Nat.le_trans H.out.len H.out.small);obtain⟨w3,hupd,hg3,hE3⟩:=(H2.out.below (below_drew (Below.refl _ _))).upd_end (t:=lastP p) (n:=(cnt (lastP p) s.ps:Int)+1) (last_in p) (i64_small (by omega) (by omega));have hE3:=hE3 (layP p s.ps) (fun u=>by
   rw[cnt_lay_new u hhas];by_cases e:u=lastP p
   ·subst e;rw[if_pos rfl,if_pos rfl];omega
   ·rw[if_neg e,if_neg (fun e'=>e e'.symm)];omega)
  have hlp:wrap64 (p.f1.f1-1)=lastP p:=rfl;have hwr:wrap64 ((cnt (lastP p) s.ps:Int)+1)=(cnt (lastP p) s.ps:Int)+1:=by unfold wrap64;omega
  have HG3:=Aside0.mk (show w2.grownBy w3 (some b2) from⟨hg3.os,hg3.tape,hg3.output,hg3.size,hg3.block⟩);have HE3:=Aside0.mk hE3;clear hg3 hE3 hcn c0 c1 c2 c3 c4 c5 hhas;go_wp2_with fail;go_region;have HQ3:=Aside0.mk (blk_grown H2.out.at_ HG3.out (fun e=>H2.out.qne2 (Option.some.inj e)));have HKP3:=Aside0.mk (blk_grown HKP2.out HG3.out (fun e=>by injection e with e;have:=HLT.out;omega));have HKK3:=Aside0.mk (blk_grown HKK2.out HG3.out (fun e=>by injection e with e;have:=HLT.out;omega));have HT3:=Aside0.mk (own_other H2.out.tms HG3.out (Or.inr (fun e=>(H2.out.tne1 _ e).2.1 rfl)));have HA3:Aside0 (∃D,w3.ownsMap Try.prog 98 RA b1 N D∧Al D s.ps):=⟨by obtain⟨D,m1,a1⟩:=H2.out.all;exact⟨D,m1.kept HG3.out (fun e=>H2.out.ne (Option.some.inj e)),a1⟩⟩
  have HB3:Aside0 (Fr F w w3):=⟨((Fr.refl F w).below HB2.out).trans (Fr.of_grown HG3.out (fun j e=>by injection e with e;exact e▸H.out.f2))⟩
  clear p2 hend hend' hupd hlp hwr c6;go_wp2_with fail;refine start_ (n:=10) (S:=fun w'=>w'.cell? ⟨w.heap.size,2,none⟩=some (.int .i64 p.f1.f1)) (ds:=[9]) #[false,false,false,false,false,false,false,false,false,false] (by kernel_rfl) rfl rfl ((blk_cell (blk_drew HKP3.out) 2).trans rfl) (fun hHeld=> ?_);refine with_tabW Tlay.tab5 Tlay.bits5 (fun HT_ HW_=> ?_);refine pure_ (i:=0) (N:=some 33) (v:= ?_) (a' := ?_) #[true,false,false,false,false,false,false,false,false,false] rfl rfl (any_of HT_.out (by kernel_rfl)) (fun _ _ _ h=>h) (Or.inl ⟨by rfl,?_⟩) ?_ ?_;rotate_left
  ·intro w';go_simp
   with_reducible rfl
  rotate_left
  ·simp only[Act.put,List.setIfInBounds_toArray,List.set_cons_zero,List.set_cons_succ,i64_w,i32_w];rfl
  refine pure_ (i:=1) (N:=some 34) (v:= ?_) (a' := ?_) #[true,true,false,false,false,false,false,false,false,false] rfl rfl (any_of HT_.out (by kernel_rfl)) (fun _ _ _ h=>h) (Or.inl ⟨by rfl,?_⟩) ?_ ?_;rotate_left
  ·intro w';go_simp
   with_reducible rfl
  rotate_left
  ·simp only[Act.put,List.setIfInBounds_toArray,List.set_cons_zero,List.set_cons_succ,i64_w,i32_w];rfl
  refine pure_ (i:=2) (N:=some 35) (v:= ?_) (a' := ?_) #[true,true,true,false,false,false,false,false,false,false] rfl rfl (any_of HT_.out (by kernel_rfl)) (fun _ _ _ h=>h) (Or.inl ⟨by rfl,?_⟩) ?_ ?_;rotate_left
  ·intro w';go_simp
   with_reducible rfl
  rotate_left
  ·simp only[Act.put,List.setIfInBounds_toArray,List.set_cons_zero,List.set_cons_succ,i64_w,i32_w];rfl
  refine pure_ (i:=3) (N:=some 36) (v:= ?_) (a' := ?_) #[true,true,true,true,false,false,false,false,false,false] rfl rfl (any_of HT_.out (by kernel_rfl)) (fun _ _ _ h=>h) (Or.inl ⟨by rfl,?_⟩) ?_ ?_;rotate_left
  ·intro w';go_simp
   with_reducible rfl
  rotate_left
  ·simp only[Act.put,List.setIfInBounds_toArray,List.set_cons_zero,List.set_cons_succ,i64_w,i32_w];rfl
  refine pure_ (i:=4) (N:=some 37) (v:= ?_) (a' := ?_) #[true,true,true,true,true,false,false,false,false,false] rfl rfl (any_of HT_.out (by kernel_rfl)) (fun _ _ _ h=>h) (Or.inl ⟨by rfl,?_⟩) ?_ ?_;rotate_left
  ·intro w';go_simp
   with_reducible rfl
  rotate_left
  ·simp only[Act.put,List.setIfInBounds_toArray,List.set_cons_zero,List.set_cons_succ,i64_w,i32_w];rfl
  refine pure_ (i:=5) (N:=some 38) (v:= ?_) (a' := ?_) #[true,true,true,true,true,true,false,false,false,false] rfl rfl (any_of HT_.out (by kernel_rfl)) (fun _ _ _ h=>h) (Or.inl ⟨by rfl,?_⟩) ?_ ?_;rotate_left
  ·intro w';go_simp
   with_reducible rfl
  rotate_left
  ·simp only[Act.put,List.setIfInBounds_toArray,List.set_cons_zero,List.set_cons_succ,i64_w,i32_w];rfl
  refine take_ (i:=6) (N:=some 39) (v:= ?_) (a' := ?_) #[true,true,true,true,true,true,true,false,false,false] rfl rfl (take_ofW HT_.out HW_.out (by kernel_rfl)) (fun _ _ _ h=>h) (Or.inl ⟨by rfl,?_⟩) hHeld ?_ ?_;rotate_left
  ·rintro w' s0;go_simp
   with_reducible rfl
  rotate_left
  ·simp only[Act.put,List.setIfInBounds_toArray,List.set_cons_zero,List.set_cons_succ,i64_w,i32_w];rfl
  refine pure_ (i:=7) (N:=some 40) (v:= ?_) (a' := ?_) #[true,true,true,true,true,true,true,true,false,false] rfl rfl (any_of HT_.out (by kernel_rfl)) (fun _ _ _ h=>h) (Or.inl ⟨by rfl,?_⟩) ?_ ?_;rotate_left
  ·intro w';go_simp
   with_reducible rfl
  rotate_left
  ·simp only[Act.put,List.setIfInBounds_toArray,List.set_cons_zero,List.set_cons_succ,i64_w,i32_w];rfl
  refine pure_ (i:=8) (N:=some 41) (v:= ?_) (a' := ?_) #[true,true,true,true,true,true,true,true,true,false] rfl rfl (any_of HT_.out (by kernel_rfl)) (fun _ _ _ h=>h) (Or.inl ⟨by rfl,?_⟩) ?_ ?_;rotate_left
  ·intro w';go_simp
   with_reducible rfl
  rotate_left
  ·simp only[Act.put,List.setIfInBounds_toArray,List.set_cons_zero,List.set_cons_succ,i64_w,i32_w];rfl
  refine last_ (i:=9) (N:=some 42) #[true,true,true,true,true,true,true,true,true,true] rfl rfl (one_of HT_.out (by kernel_rfl)) (by decide) (fun K hK=> ?_);refine goes_ Try.func72 (by kernel_rfl) rfl #[hv q,.iface 2 (.int .i64 (wrap64 (p.f1.f1-1)))] (by rfl) rfl rfl (by(try simp only[List.map_toArray,List.map_cons,List.map_nil]);first|done|rfl) ?_;refine(hPush_calls (blk_drew HQ3.out) rfl rfl HT3.out H.out.heap H.out.tmlen (wrap64 (p.f1.f1-1))).mono ?_;rintro e w4 ⟨rfl,tv4,tm4,h4q,h4o,h4h,h4p,h4f,h4b⟩;refine⟨_,rfl,?_⟩;refine hK.out _ _ ?_;clear hK K;refine norm_ (a' := ?_) ?_ ?_;rotate_left
  ·show Act.put _ (some 42) _=_;simp only[Act.put,List.setIfInBounds_toArray,List.set_cons_zero,List.set_cons_succ,i64_w,i32_w];rfl
  refine done_ (done_of HT_.out (by kernel_rfl)) ?_;have h4f:Fr (fun k=>k=q∨tv.ownBlock=some k) w3 w4:=Fr.undrew h4f;have h4b: ∀g,tv4.ownBlock=some g→tv.ownBlock=some g∨w3.heap.size≤g:=h4b;have HKP4:=Aside0.mk ((h4f.block _ (lt_of_block HKP3.out) (fun e=>by rcases e with e|e;(have:=HLT.out;omega);(have:=own_lt H.out.tms _ e;omega))).trans HKP3.out);have HKK4:=Aside0.mk ((h4f.block _ (lt_of_block HKK3.out) (fun e=>by rcases e with e|e;(have:=HLT.out;omega);(have:=own_lt H.out.tms _ e;omega))).trans HKK3.out);have hA4: ∃D,w4.ownsMap Try.prog 98 RA b1 N D∧Al D s.ps:=by
   obtain⟨D,m1,a1⟩:=HA3.out;exact⟨D,map_fr m1 h4f (fun e=>by rcases e with e|e;exact H.out.qne1 e.symm;exact(H.out.tne1 _ e).1 rfl),a1⟩
  have hE4: ∃D,w4.ownsMap Try.prog 2 RE b2 (N+1) D∧Ed D (layP p s.ps):=by
   obtain⟨D,m2,a2⟩:=HE3.out;exact⟨D,map_fr m2 h4f (fun e=>by rcases e with e|e;exact H.out.qne2 e.symm;exact(H.out.tne1 _ e).2.1 rfl),a2⟩
  have hB4:Fr F w w4:=by
   have hs:=HB3.out.size;exact⟨h4f.os.trans HB3.out.os,h4f.tape.trans HB3.out.tape,h4f.output.trans HB3.out.output,Nat.le_trans hs h4f.size,fun k hk hn=>(h4f.block k (Nat.lt_of_lt_of_le hk hs) (fun e=>by rcases e with e|e;exact hn (e▸H.out.fq);exact hn (H.out.ft _ e))).trans (HB3.out.block k hk hn)⟩
  obtain⟨w5,hrun5,hTo⟩:=lay_done H.out HN.out HP.out hB4 h4q hA4 hE4 h4o h4h (by rw[h4p.length_eq,List.length_cons];have:=H.out.tmN;omega) (fun x hx=>by
   rw[h4p.mem_iff];rcases List.mem_cons.1 hx with rfl|hx
   ·exact List.mem_cons_self ..
   ·exact List.mem_cons_of_mem _ (H.out.last x (mem_outP.1 hx).1)) (fun x hx=>by
   rw[h4p.mem_iff] at hx;rcases List.mem_cons.1 hx with rfl|hx
   ·exact last_in p
   ·exact H.out.tm64 x hx) (fun g hg=>by
   rcases h4b g hg with h|h
   ·exact Or.inl (H.out.ft g h)
   ·exact Or.inr (Nat.le_trans HB3.out.size h))
  have HTo:=Aside0.mk hTo;have k4:w4.cell? ⟨q,4,none⟩=some (.map (some b1)):=(blk_cell h4q 4).trans rfl;have k0:=(blk_cell HKK4.out 0).trans rfl;have k1:=(blk_cell HKK4.out 1).trans rfl;have k2:=(blk_cell HKK4.out 2).trans rfl;have k3:=(blk_cell HKP4.out 3).trans rfl;rw[k98] at hrun5;clear h4q h4o h4h h4p h4f h4b hA4 hE4 hB4 hTo hHeld;go_wp2_with fail;go_region;go_wp2
  first|go_end0|((try simp only[Exit.inBlock,Exit.then]);refine bodyPost_ret (results_none rfl _ _ _) rfl ?_)
  exact⟨rfl,HTo.out⟩
 | true=>
  have hB4:Fr F w w2:=(Fr.refl F w).below HB2.out;have hE4: ∃D,w2.ownsMap Try.prog 2 RE b2 (N+1) D∧Ed D (layP p s.ps):=by
   obtain⟨D,m2,a2⟩:=H2.out.ends;exact⟨D,m2.mono (Nat.le_succ _),a2.same (fun t=>cnt_lay_old t H.out.apart hhas)⟩
  obtain⟨w5,hrun5,hTo⟩:=lay_done H.out HN.out HP.out hB4 H2.out.at_ H2.out.all hE4 H2.out.tms H.out.heap (by have:=H.out.tmN;omega) (fun x hx=>by
   rcases List.mem_cons.1 hx with rfl|hx
   ·obtain⟨y,hy,hs⟩:=List.any_eq_true.1 hhas;rw[←same_last hs];exact H.out.last y hy
   ·exact H.out.last x (mem_outP.1 hx).1) H.out.tm64 (fun g hg=>Or.inl (H.out.ft g hg))
  have HTo:=Aside0.mk hTo;obtain⟨c0,c1,c2,c3,c4,c5,c6⟩:=H2.out.cells;have k0:=(blk_cell HKK2.out 0).trans rfl;have k1:=(blk_cell HKK2.out 1).trans rfl;have k2:=(blk_cell HKK2.out 2).trans rfl;have k3:=(blk_cell HKP2.out 3).trans rfl;rw[k98] at hrun5;clear hB4 hE4 hTo hhas c0 c1 c2 c3 c5 c6;go_wp2_with fail;go_region;go_wp2
  first|go_end0|((try simp only[Exit.inBlock,Exit.then]);refine bodyPost_ret (results_none rfl _ _ _) rfl ?_)
  exact⟨rfl,HTo.out⟩
end Go.Proofs.Ytjegeghigfmkoaa.T
namespace Go.Proofs.Ytjegeghigfmkoaa.T
open Go.RowKit Go.Maps Go.Sort Go.Proofs.Ytjegeghigfmkoaa.X Go.Proofs.YtjegeghigfmkoaaW.PrintWords Go.Proofs.YtjegeghigfmkoaaW.PrintLast Go.Proofs.YtjegeghigfmkoaaW.PrintMore
set_option linter.unusedVariables false
set_option linter.unusedSimpArgs false
set_option maxRecDepth 100000
variable {F:Nat→Prop} {N:Nat} {w w' :World} {q b1 b2:Nat} {tv:Value} {tm:List Int} {s:St}
theorem del_all {D:DU} (m1:w.ownsMap Try.prog 98 RA b1 N D) (a1:Al D s.ps) (hap:Apart s.ps) (h64: ∀x ∈ s.ps,P64 x) {p:S70} (hp:P64 p) (ty:TypeId): ∃w',(Builtin.delete_ #[82,98] ty #[.map (some b1),keyV p]).run Try.prog w= .ok (.tuple #[]) w'∧w.grownBy w' (some b1)∧ ∃D,w'.ownsMap Try.prog 98 RA b1 N D∧Al D (outP p s.ps):=by
 obtain⟨w',hrun,hown,ht⟩:=m1.drop keyed98 Try.underlying82 (keyOf98 hp) ty;exact⟨w',hrun,ht.grown,_,hown,a1.del hap h64 hp⟩
theorem del_end {D:DU} {ps:List S70} (m2:w.ownsMap Try.prog 2 RE b2 N D) (a2:Ed D ps) {t:Int} (ht:I64 t) (h0:cnt t ps=0) (ty:TypeId): ∃w',(Builtin.delete_ #[83,2] ty #[.map (some b2),.int .i64 t]).run Try.prog w= .ok (.tuple #[]) w'∧w.grownBy w' (some b2)∧ ∃D,w'.ownsMap Try.prog 2 RE b2 N D∧Ed D ps:=by
 obtain⟨w',hrun,hown,ht⟩:=m2.drop keyed2 Try.underlying83 (keyOf_int_mk Try.underlying2 (i64_wf.2 ht)) ty;exact⟨w',hrun,ht.grown,_,hown,a2.del t h0⟩
theorem end_look {D:DU} {ps:List S70} (m2:w.ownsMap Try.prog 2 RE b2 N D) (a2:Ed D ps) {t:Int} (ht:I64 t):(Instr.lookup 83 (.map (some b2)) (.int .i64 t) false).run Try.prog w= .ok (.int .i64 (cnt t ps)) w:=by
 obtain⟨v,hrun,hat,_⟩:=m2.lookup_int keyed2 Try.underlying83 Try.underlying3 (Try.zeroValue3 w) (keyOf_int_mk Try.underlying2 (i64_wf.2 ht));rw[a2.at_ t] at hat;injection hat with e
 injection e with _ e
 rw[←e] at hrun;exact hrun
theorem end_upd {D:DU} {ps:List S70} (m2:w.ownsMap Try.prog 2 RE b2 N D) (a2:Ed D ps) (hs:N<2000000) {t n:Int} (ht:I64 t) (hn:I64 n): ∃w',(Instr.mapUpdate 83 (.map (some b2)) (.int .i64 t) (.int .i64 n)).run Try.prog w= .ok () w'∧w.grownBy w' (some b2)∧ ∀ps',(∀u,(cnt u ps' :Int)=if u=t then n else cnt u ps)→ ∃D,w'.ownsMap Try.prog 2 RE b2 (N+1) D∧Ed D ps' :=by
 obtain⟨w',hrun,hown,hg⟩:=m2.update keyed2 Try.underlying83 (by unfold maxLen;omega) (keyOf_int_mk Try.underlying2 (i64_wf.2 ht)) (plainElem_int (H:=Unit) Try.underlying3 (i64_wf.2 hn));exact⟨w',hrun,hg,fun ps' he=>⟨_,hown,a2.put t n he⟩⟩
theorem IsT.out (H:IsT F N w q b1 b2 tv tm s) (hN:N<1000000) (p:S70) {w4:World} (f4:Fr (fun k=>k=b1∨k=b2∨w.heap.size≤k) w w4) (hA: ∃D,w4.ownsMap Try.prog 98 RA b1 N D∧Al D (outP p s.ps)) (hE: ∃D,w4.ownsMap Try.prog 2 RE b2 (N+1) D∧Ed D (outP p s.ps)):To F w w4 (N+1) q {s with ps:=outP p s.ps}:=by
 obtain⟨D,m1,a1⟩:=hA;have fr:Fr F w w4:=f4.mono (fun k hk h=>by rcases h with rfl|rfl|h;exact H.f1;exact H.f2;omega);have hq:=H.bound q H.fq;refine⟨⟨b1,b2,tv,tm,⟨(f4.block q hq (fun e=>by rcases e with e|e|e;exact H.qne1 e;exact H.qne2 e;omega)).trans H.at_,⟨D,m1.mono (Nat.le_succ _),a1⟩,hE,own_fr H.tms f4 (fun g hg e=> ?_),H.heap,Nat.le_succ_of_le H.tmN,fun x hx=>H.last x (mem_outP.1 hx).1,H.tm64,Or.inl H.fq,Or.inl H.f1,Or.inl H.f2,fun g hg=>Or.inl (H.ft g hg),H.ne,H.apart.out p,fun x hx=>H.p64 x (mem_outP.1 hx).1,by omega,Fx.bound H.bound fr.size,?_⟩⟩,fr⟩
 ·have h1:=H.tne1 g hg;have h2:=own_lt H.tms g hg;rcases e with e|e|e
  ·exact h1.1 e
  ·exact h1.2.1 e
  ·omega
 ·have:=List.length_filter_le (fun x=> !same p x) s.ps;have:=H.len;show(outP p s.ps).length≤N+1;unfold outP;omega
set_option maxHeartbeats 4000000 in
theorem drop_calls (h:IsS F N w q s) (hN:N<1000000) (p:S70) (hp:P64 p):Calls Try.prog 63 #[.pointer (some ⟨q,0,none⟩),.agg #[.int .i64 p.f0,.int .i64 p.f1.f0,.int .i64 p.f1.f1,.int .i64 p.f2]] w fun e w'=>e= .returned (.tuple #[])∧To F w w' (N+1) q {s with ps:=outP p s.ps}:=by
 obtain⟨b1,b2,tv,tm,h⟩:=h;have H:=Aside0.mk h;have HP:=Aside0.mk hp;have HN:=Aside0.mk hN;clear h hp hN;go_enter Try.func63,Try.ntmps63;go_wp2_with fail;have HB1:=Aside0.mk (((Below.refl w.heap.size w).alloc (Nat.le_refl _) (.cells #[.int .i64 p.f0,.int .i64 p.f1.f0,.int .i64 p.f1.f1,.int .i64 p.f2] 70)).alloc (by simp) (.cells #[.int .i64 p.f0,.int .i64 p.f1.f0,.int .i64 p.f1.f1] 98));have HKP:=Aside0.mk (blk_below (heap_alloc_new w (.cells #[.int .i64 p.f0,.int .i64 p.f1.f0,.int .i64 p.f1.f1,.int .i64 p.f2] 70)) ((Below.refl _ _).alloc (Nat.le_refl _) (.cells #[.int .i64 p.f0,.int .i64 p.f1.f0,.int .i64 p.f1.f1] 98)));have HKK:=Aside0.mk (heap_alloc_new (w.alloc (.cells #[.int .i64 p.f0,.int .i64 p.f1.f0,.int .i64 p.f1.f1,.int .i64 p.f2] 70)) (.cells #[.int .i64 p.f0,.int .i64 p.f1.f0,.int .i64 p.f1.f1] 98));have hsz1:(w.alloc (.cells #[.int .i64 p.f0,.int .i64 p.f1.f0,.int .i64 p.f1.f1,.int .i64 p.f2] 70)).heap.size=w.heap.size+1:=by simp
 rw[hsz1] at HKK;generalize hw1:((w.alloc (.cells #[.int .i64 p.f0,.int .i64 p.f1.f0,.int .i64 p.f1.f1,.int .i64 p.f2] 70)).alloc (.cells #[.int .i64 p.f0,.int .i64 p.f1.f0,.int .i64 p.f1.f1] 98))=w1 at HB1 HKP HKK ⊢;clear hw1 hsz1;have H1:=Aside0.mk (H.out.below HB1.out);obtain⟨c0,c1,c2,c3,c4,c5,c6⟩:=H1.out.cells;have k0:=(blk_cell HKK.out 0).trans rfl;have k1:=(blk_cell HKK.out 1).trans rfl;have k2:=(blk_cell HKK.out 2).trans rfl;have hlook:=H1.out.look HP.out;have hlook' :=(H1.out.below (below_drew (Below.refl _ _))).look HP.out;rw[k98] at hlook hlook';clear c0 c1 c2 c3 c5 c6;go_region;have HB2:=Aside0.mk (below_drew HB1.out);have HKP2:=Aside0.mk (blk_drew HKP.out);have HKK2:=Aside0.mk (blk_drew HKK.out);have H2:=Aside0.mk (H1.out.below (below_drew (Below.refl _ _)));clear c4 k0 k1 k2 hlook hlook' HB1 HKP HKK H1;generalize w1.drew=w2 at HB2 HKP2 HKK2 H2 ⊢;clear w1;have HLT:=Aside0.mk (And.intro (H.out.bound q H.out.fq) (And.intro (H.out.bound b1 H.out.f1) (H.out.bound b2 H.out.f2)));cases hhas:hasP p s.ps with
 | false=>
  have ht: ∃tm,True:=⟨0,trivial⟩
  go_wp2
  first|go_end0|((try simp only[Exit.inBlock,Exit.then]);refine bodyPost_ret (results_none rfl _ _ _) rfl ?_)
  refine⟨rfl,H.out.out HN.out p (Fr.of_below' HB2.out (fun k hk _=>Or.inr (Or.inr hk))) ?_ ?_⟩
  ·obtain⟨D,m1,a1⟩:=H2.out.all;rw[outP_none hhas];exact⟨D,m1,a1⟩
  ·obtain⟨D,m2,a2⟩:=H2.out.ends;rw[outP_none hhas];exact⟨D,m2.mono (Nat.le_succ _),a2⟩
 | true=>
  have HH:=Aside0.mk hhas;obtain⟨c0,c1,c2,c3,c4,c5,c6⟩:=H2.out.cells;have k0:=(blk_cell HKK2.out 0).trans rfl;have k1:=(blk_cell HKK2.out 1).trans rfl;have k2:=(blk_cell HKK2.out 2).trans rfl;obtain⟨w3,hdel,hg3,hA3⟩: ∃w3,(Builtin.delete_ #[82,98] 0 #[.map (some b1),keyV p]).run Try.prog w2.drew= .ok (.tuple #[]) w3∧w2.drew.grownBy w3 (some b1)∧ ∃D,w3.ownsMap Try.prog 98 RA b1 N D∧Al D (outP p s.ps):=by
   obtain⟨D,m1,a1⟩:=H2.out.all;exact del_all (w:=w2.drew) m1 a1 H.out.apart H.out.p64 HP.out 0
  rw[k98] at hdel;have HG3:=Aside0.mk (show w2.grownBy w3 (some b1) from⟨hg3.os,hg3.tape,hg3.output,hg3.size,hg3.block⟩);have HA3:=Aside0.mk hA3;clear hg3 hA3 hhas c0 c1 c2 c3 c5 c6;go_wp2_with fail;go_region;have HQ3:=Aside0.mk (blk_grown H2.out.at_ HG3.out (fun e=>H2.out.qne1 (Option.some.inj e)));have HKP3:=Aside0.mk (blk_grown HKP2.out HG3.out (fun e=>by injection e with e;have:=HLT.out;omega));have HE3:Aside0 (∃D,w3.ownsMap Try.prog 2 RE b2 N D∧Ed D s.ps):=⟨by obtain⟨D,m2,a2⟩:=H2.out.ends;exact⟨D,m2.kept HG3.out (fun e=>H2.out.ne (Option.some.inj e).symm),a2⟩⟩
  have HB3:Aside0 (Fr (fun k=>k=b1∨k=b2∨w.heap.size≤k) w w3):=⟨(Fr.of_below' HB2.out (fun k hk _=>Or.inr (Or.inr hk))).trans (Fr.of_grown HG3.out (fun j e=>Or.inl (Option.some.inj e).symm))⟩
  clear hdel k0 k1 k2 c4;have hcn:cnt (lastP p) s.ps≤1000000:=Nat.le_trans (cnt_le _ _) (Nat.le_trans H.out.len H.out.small);have hco:=cnt_out (lastP p) H.out.apart HH.out;rw[if_pos rfl] at hco;obtain⟨n,hn⟩: ∃n,cnt (lastP p) (outP p s.ps)=n:=⟨_,rfl⟩
  rw[hn] at hco;have hwr:wrap64 ((cnt (lastP p) s.ps:Int)-1)=(n:Int):=by unfold wrap64;omega
  obtain⟨w4,hupd,hg4,hE4,hend,hend'⟩: ∃w4,(Instr.mapUpdate 83 (.map (some b2)) (.int .i64 (lastP p)) (.int .i64 (n:Int))).run Try.prog w3.drew= .ok () w4∧w3.drew.grownBy w4 (some b2)∧(∃D,w4.ownsMap Try.prog 2 RE b2 (N+1) D∧Ed D (outP p s.ps))∧(Instr.lookup 83 (.map (some b2)) (.int .i64 (lastP p)) false).run Try.prog w3= .ok (.int .i64 (cnt (lastP p) s.ps)) w3∧(Instr.lookup 83 (.map (some b2)) (.int .i64 (lastP p)) false).run Try.prog w3.drew= .ok (.int .i64 (cnt (lastP p) s.ps)) w3.drew:=by
   obtain⟨D,m2,a2⟩:=HE3.out;obtain⟨w4,h1,h2,h3⟩:=end_upd (w:=w3.drew) m2 a2 (by have:=HN.out;omega) (t:=lastP p) (n:=(n:Int)) (last_in p) (i64_small (by omega) (by omega));refine⟨w4,h1,h2,h3 _ (fun u=> ?_),end_look m2 a2 (last_in p),end_look (w:=w3.drew) m2 a2 (last_in p)⟩;have hu:=cnt_out u H.out.apart HH.out;by_cases e:u=lastP p
   ·subst e;rw[if_pos rfl];omega
   ·rw[if_neg e];rw[if_neg (fun e'=>e e'.symm)] at hu;omega
  have HG4:=Aside0.mk (show w3.grownBy w4 (some b2) from⟨hg4.os,hg4.tape,hg4.output,hg4.size,hg4.block⟩);have HE4:=Aside0.mk hE4;have HNn:=Aside0.mk hn;have c6:w3.cell? ⟨q,6,none⟩=some (.map (some b2)):=(blk_cell HQ3.out 6).trans rfl;have p2:=(blk_cell HKP3.out 2).trans rfl;have hlp:wrap64 (p.f1.f1-1)=lastP p:=rfl;clear hg4 hE4 hco hn hcn;go_wp2_with fail;go_region;have HQ4:=Aside0.mk (blk_grown HQ3.out HG4.out (fun e=>H2.out.qne2 (Option.some.inj e)));have HKP4:=Aside0.mk (blk_grown HKP3.out HG4.out (fun e=>by injection e with e;have:=HLT.out;omega));have HA4:Aside0 (∃D,w4.ownsMap Try.prog 98 RA b1 N D∧Al D (outP p s.ps)):=⟨by obtain⟨D,m1,a1⟩:=HA3.out;exact⟨D,m1.kept HG4.out (fun e=>H2.out.ne (Option.some.inj e)),a1⟩⟩
  have HB4:Aside0 (Fr (fun k=>k=b1∨k=b2∨w.heap.size≤k) w w4):=⟨HB3.out.trans (Fr.of_grown HG4.out (fun j e=>Or.inr (Or.inl (Option.some.inj e).symm)))⟩
  clear hupd hend hend' c6 p2 hwr;have c6:w4.cell? ⟨q,6,none⟩=some (.map (some b2)):=(blk_cell HQ4.out 6).trans rfl;have p2:=(blk_cell HKP4.out 2).trans rfl;obtain⟨hend,hend'⟩:(Instr.lookup 83 (.map (some b2)) (.int .i64 (lastP p)) false).run Try.prog w4= .ok (.int .i64 (n:Int)) w4∧(Instr.lookup 83 (.map (some b2)) (.int .i64 (lastP p)) false).run Try.prog w4.drew= .ok (.int .i64 (n:Int)) w4.drew:=by
   obtain⟨D,m2,a2⟩:=HE4.out;rw[←HNn.out];exact⟨end_look m2 a2 (last_in p),end_look (w:=w4.drew) m2 a2 (last_in p)⟩
  go_wp2_with fail;go_region;clear hend hend' c6 p2;have HQ5:=Aside0.mk (blk_drew HQ4.out);have HKP5:=Aside0.mk (blk_drew HKP4.out);by_cases hn0:n=0
  ·have hnz:((n:Int)==0)=true:=by simp[hn0]
   obtain⟨w5,hdel,hg5,hE5⟩: ∃w5,(Builtin.delete_ #[83,2] 0 #[.map (some b2),.int .i64 (lastP p)]).run Try.prog w4.drew.drew= .ok (.tuple #[]) w5∧w4.drew.drew.grownBy w5 (some b2)∧ ∃D,w5.ownsMap Try.prog 2 RE b2 (N+1) D∧Ed D (outP p s.ps):=by
    obtain⟨D,m2,a2⟩:=HE4.out;exact del_end (w:=w4.drew.drew) m2 a2 (last_in p) (by rw[HNn.out,hn0]) 0
   have HG5:=Aside0.mk (show w4.grownBy w5 (some b2) from⟨hg5.os,hg5.tape,hg5.output,hg5.size,hg5.block⟩);have HE5:=Aside0.mk hE5;clear hg5 hE5;have c6:w4.drew.cell? ⟨q,6,none⟩=some (.map (some b2)):=(blk_cell HQ5.out 6).trans rfl;have p2:=(blk_cell HKP5.out 2).trans rfl;generalize hwd:w4.drew=wd at*
   go_wp2_with fail;go_region;go_wp2
   first|go_end0|((try simp only[Exit.inBlock,Exit.then]);refine bodyPost_ret (results_none rfl _ _ _) rfl ?_)
   refine⟨rfl,H.out.out HN.out p (HB4.out.trans (Fr.of_grown HG5.out (fun j e=>Or.inr (Or.inl (Option.some.inj e).symm)))) ?_ HE5.out⟩;obtain⟨D,m1,a1⟩:=HA4.out;exact⟨D,m1.kept HG5.out (fun e=>H2.out.ne (Option.some.inj e)),a1⟩
  ·have hnz:((n:Int)==0)=false:=by simpa using hn0
   go_wp2
   first|go_end0|((try simp only[Exit.inBlock,Exit.then]);refine bodyPost_ret (results_none rfl _ _ _) rfl ?_)
   exact⟨rfl,H.out.out HN.out p HB4.out.drew HA4.out HE4.out⟩
end Go.Proofs.Ytjegeghigfmkoaa.T
