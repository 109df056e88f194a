/- maps.All over the map of panes, for every loop body. Conditions: those typed. -/
import Derived.Test.YtjegeghigfmkoaaMStatePlays21
import Derived.RangeFuncNested
import Derived.RangeFuncBound
import Derived.RangeFuncCalls
import Derived.RangeFuncLeaves
import Derived.RangeFuncBox
import Derived.Shelf.AbstractIn
import Derived.Sort.MapsRangeIn
import Derived.Maps.OwnIn
import Derived.Maps.AppendAt
import Derived.WalkKit
import Derived.OwnWalkIn
import Derived.TacticsInMore
import Derived.RegionIn
import Derived.LoopNIn
import Derived.LoopIn
import Derived.Test.YtjegeghigfmkoaaMStatePlays20
namespace Go.Proofs.Ytjegeghigfmkoaa.T
open Go.RowKit Go.Maps Go.Sort Go.Shelf Go.Proofs Go.Proofs.Ytjegeghigfmkoaa Go.Proofs.Ytjegeghigfmkoaa.X Go.Proofs.YtjegeghigfmkoaaW.PrintWords Go.Proofs.YtjegeghigfmkoaaW.PrintLast Go.Proofs.YtjegeghigfmkoaaW.PrintMore
set_option linter.unusedVariables false
set_option linter.unusedSimpArgs false
set_option maxRecDepth 100000
theorem apart_ne {l:List S70} (h:Apart l) {x y:S70} (hx:x ∈ l) (hy:y ∈ l) (hne:x≠y):same x y=false:=by
 induction l with
 |nil=>cases hx
 | cons z r ih=>
  obtain⟨h1,h2⟩:=List.pairwise_cons.1 h;rcases List.mem_cons.1 hx with ex|hx
  ·rcases List.mem_cons.1 hy with ey|hy
   ·exact absurd (ex.trans ey.symm) hne
   ·rw[ex];exact h1 y hy
  ·rcases List.mem_cons.1 hy with ey|hy
   ·rw[ey,same_comm];exact h1 x hx
   ·exact ih h2 hx hy
theorem apart_nodup {l:List S70} (h:Apart l):l.Nodup:=h.imp (fun {x y} hs e=>by rw[e,same_refl] at hs;cases hs)
abbrev encE (p:S70):Array Value:= #[keyV p,.int .i64 p.f2]
structure Come (l:List S70) (left:Lit→Bool) (ps:List S70):Prop where
 sub: ∀y ∈ ps,y ∈ l
 nodup:ps.Nodup
 iff_: ∀y ∈ l,left (keyL y)=false↔y ∈ ps
theorem Come.step {l:List S70} {left:Lit→Bool} {ps:List S70} (h:Come l left ps) (h64: ∀x ∈ l,P64 x) (ha:Apart l) {y:S70} (hy:y ∈ l) (hl:left (keyL y)=true):Come l (fun z=>left z && !z.sameKey (keyL y)) (ps++[y]):=by
 have hny:y ∉ ps:=fun hm=>by rw[(h.iff_ y hy).2 hm] at hl;cases hl
 refine⟨fun x hx=> ?_,?_,fun x hx=> ?_⟩
 ·rcases List.mem_append.1 hx with hx|hx
  ·exact h.sub x hx
  ·rw[List.mem_singleton.1 hx];exact hy
 ·rw[List.nodup_append];refine⟨h.nodup,by simp,fun a ha b hb e=> ?_⟩;rw[List.mem_singleton.1 hb] at e;exact hny (e▸ha)
 ·rw [Bool.and_eq_false_iff,h.iff_ x hx,List.mem_append,List.mem_singleton,sameKey_keyL (h64 y hy) (h64 x hx)];constructor
  ·rintro (h1|h1)
   ·exact Or.inl h1
   ·have hs:same y x=true:=by simpa using h1
    by_cases e:x=y
    ·exact Or.inr e
    ·exfalso;have:=apart_ne ha hx hy e;rw[same_comm,this] at hs;cases hs
  ·rintro (h1|rfl)
   ·exact Or.inl h1
   ·exact Or.inr (by simp[same_refl])
theorem Come.start {D:DU} {l:List S70} (a1:Al D l):Come l (Maps.has D) []:=⟨fun y hy=>(by cases hy),List.nodup_nil,fun y hy=>by
 rw[a1.has];have h2:(l.any fun p=>(keyL p).sameKey (keyL y))=true:=List.any_eq_true.2 ⟨y,hy,by simp[keyL,Lit.sameKey]⟩;rw[h2];simp⟩
theorem Come.all {l:List S70} {left:Lit→Bool} {ps:List S70} (h:Come l left ps) (ha:Apart l) (hl: ∀k,left k=false):ps.Perm l:=
 (List.perm_ext_iff_of_nodup h.nodup (apart_nodup ha)).2 fun y=>⟨h.sub y,fun hy=>(h.iff_ y hy).1 (hl _)⟩
attribute [local go_sem] Oper.semAt_some
set_option maxHeartbeats 2000000 in
theorem all_in (F:Fence) (n:Nat) (hf:F.fn 46) (hro:F.round=none) (mb:Option Nat) (w:World):
  CallsIn F n Try.prog 46 #[.map mb] w fun e w'=>e= .returned (.func (.func 73) #[] #[.pointer (some ⟨w.heap.size,0,none⟩)])∧w'=w.alloc (.cells #[.map mb] 82):=by
 refine callsIn_of_wp Try.func46 rfl hf ?_ hro;simp only[Try.ntmps46,List.size_toArray,List.length_cons,List.length_nil,Nat.reduceAdd,Nat.reduceSub,Array.replicate_succ,Array.replicate_zero,List.push_toArray,List.append_toArray,List.nil_append,List.cons_append]
 gi_wp2
 go_ret;exact⟨rfl,rfl⟩
set_option maxHeartbeats 4000000 in
theorem all1_in (F:Fence) (n:Nat) (h8:F.fn 73) (hro:F.round=none) (hn:1≤n) (l Bm b nn:Nat) (D0:DU) (ps0:List S70) (a1:Al D0 ps0) (h64: ∀x ∈ ps0,P64 x) (hap:Apart ps0) (J Jx:List S70→World→Prop)
  (hY: ∀pre x W,J pre W→pre.length<Maps.size D0→YieldAt F (n-1) Try.prog l (encE x) W fun e W'=>
   (e= .returned (.bool true)∧J (pre++[x]) W'∧KeepsWalks W W')∨(e= .returned (.bool false)∧Jx (pre++[x]) W'))
  (W:World) (hJ:AbidesFrom W.heap.size J) (hm:W.cell? ⟨Bm,0,none⟩=some (.map (some b))) (hown:W.ownsMap Try.prog 98 RA b nn D0) (h0:J [] W):
  CallsIn F n Try.prog 73 #[.func (.yield l) #[] #[],.pointer (some ⟨Bm,0,none⟩)] W fun e W'=>(∃v,e= .returned v)∧
   ((∃ps,ps.Perm ps0∧J ps W')∨(∃pre,(∀y ∈ pre,y ∈ ps0)∧Jx pre W')):=by
 have HA:=Aside0.mk a1;have H64:=Aside0.mk h64;have HAP:=Aside0.mk hap;clear a1 h64 hap;refine callsIn_of_wp Try.func73 rfl h8 ?_ hro;simp only[Try.ntmps73,List.size_toArray,List.length_cons,List.length_nil,Nat.reduceAdd,Nat.reduceSub,Array.replicate_succ,Array.replicate_zero,List.push_toArray,List.append_toArray,List.nil_append,List.cons_append]
 gi_wp2_with (first
  |(gi_at_range;refine wpListIn_range_own _ rfl _ 82 rfl 98 2 keyed98 Try.underlying82 _ b nn _ rfl hown ?_;intro w0 hrg0 hg0 hs0)
  |gi_in)
 go_frame
 gi_loopw [] (fun wr=> ∃(left:Lit→Bool) (cnt:Nat) (ps:List S70),wr.ranges Try.prog 98 RA b W.heap.size nn D0 left cnt∧ps.length+cnt≤Maps.size D0∧Aside0 (Come ps0 left ps)∧J ps wr)
  (fun wr=>wr.rangeLeft b W.heap.size)
 case atStart=>
  exact⟨_,_,[],hrg0,by simp,⟨Come.start HA.out⟩,hJ [] W w0 none h0 hg0 (fun r e=>by cases e)⟩
 case round=>
  obtain⟨left,cnt,ps,hrg,hcs,HC,hJs⟩:=hrel
  gi_wp2_with (first
   |(gi_at_next;refine wpListIn_next_ranges _ rfl _ rfl 98 keyed98 RA keyV (Value.int .i64) (fun key kl h=>by obtain⟨x,_,_,hx,_⟩:=keyOf98_inv h;exact⟨x,hx⟩) (fun v y h=>by obtain⟨c,hc,_⟩:=plainElem_int_inv Try.underlying2 h;exact⟨c,hc⟩) b W.heap.size nn _ _ _ rfl hrg ?_ ?_)
   |gi_in)
  ·intro hc0 hl0
   gi_wp2
   go_end0;exact⟨⟨_,rfl⟩,.inl ⟨ps,HC.out.all HAP.out hl0,hJs⟩⟩
  ·intro x c kl yd yp w2 cnt2 hkey hlk hv hat hrg2 hlt hg2 hs2 hen;obtain⟨hmem,rfl⟩:=HA.out.entry H64.out hkey hv hat;have hJ2:J ps w2:=hJ ps wr w2 (some W.heap.size) hJs hg2 (fun r e=>by cases e;exact⟨Nat.le_refl _,hrg.iter_walk⟩);have hJ3:J ps (w2.alloc (.cells #[.int .i64 x.f0,.int .i64 x.f1.f0,.int .i64 x.f1.f1] 98)):=hJ ps w2 _ none hJ2 (World.grownBy_alloc w2 _ none) (fun r e=>by cases e);have hC2:Come ps0 (fun z=>left z && !z.sameKey (keyL x)) (ps++[⟨x.f0,x.f1,c⟩]):=HC.out.step H64.out HAP.out hmem hlk;obtain⟨fn,tmps,assign,body,hy,hR⟩:=hY ps ⟨x.f0,x.f1,c⟩ _ hJ3 (by omega);dsimp only[encE] at hy;have hrg3:=hrg2.alloc (.cells #[.int .i64 x.f0,.int .i64 x.f1.f0,.int .i64 x.f1.f1] 98);have k0:=(blk_cell (heap_alloc_new w2 (.cells #[.int .i64 x.f0,.int .i64 x.f1.f0,.int .i64 x.f1.f1] 98)) 0).trans rfl;have k1:=(blk_cell (heap_alloc_new w2 (.cells #[.int .i64 x.f0,.int .i64 x.f1.f0,.int .i64 x.f1.f1] 98)) 1).trans rfl;have k2:=(blk_cell (heap_alloc_new w2 (.cells #[.int .i64 x.f0,.int .i64 x.f1.f0,.int .i64 x.f1.f1] 98)) 2).trans rfl;rw[hs2] at k0 k1 k2;have HC2:=Aside0.mk hC2;clear hC2 hJ2 hJ3 hkey hv hat hmem;rw[k98] at hen hy;rw[k98]
   gi_wp2
   refine hR.mono ?_;rintro e W3 (⟨rfl,hJ3,hk3⟩|⟨rfl,hJx3⟩)
   ·gi_wp2
    have hrg4:=hrg3.of_walks hk3;go_roundw
    case rel=>exact⟨_,cnt2,ps++[⟨x.f0,x.f1,c⟩],hrg4,by simp;omega,HC2,hJ3⟩
    case measure=>rw[hrg4.left_eq,hrg.left_eq];exact hlt
   ·gi_wp2
    refine bodyPost_ret (results_none rfl _ _ _) rfl ?_;exact⟨⟨_,rfl⟩,.inr ⟨ps++[⟨x.f0,x.f1,c⟩],fun y hy=>HC2.out.sub y hy,hJx3⟩⟩
theorem all_stops (F:Fence) (n:Nat) (h8:F.fn 73) (hro:F.round=none) (hn:1≤n) (Bm b nn:Nat) (D0:DU) (ps0:List S70) (a1:Al D0 ps0) (h64: ∀x ∈ ps0,P64 x) (hap:Apart ps0) (w:World) (hBm:Bm<w.heap.size)
  (hm:w.cell? ⟨Bm,0,none⟩=some (.map (some b))) (hown:w.ownsMap Try.prog 98 RA b nn D0):
  SeqStopsK F n Try.prog 73 #[.pointer (some ⟨Bm,0,none⟩)] encE KeepsWalks (fun ps=>ps.Perm ps0) (fun pre=> ∀y ∈ pre,y ∈ ps0) (Maps.size D0) w:=fun l J Jx W hW hJ _ hY h0=>by
 have hown' :W.ownsMap Try.prog 98 RA b nn D0:=by
  have hbl:=hown.lt;obtain⟨es,clock,hb,Ft,hs,hD⟩:=hown;exact⟨es,clock,(hW.block b hbl).trans hb,Ft,hs,hD⟩
 exact all1_in F n h8 hro hn l Bm b nn D0 ps0 a1 h64 hap J Jx hY W hJ ((hW.cell (p:=⟨Bm,0,none⟩) hBm).trans hm) hown' h0
end Go.Proofs.Ytjegeghigfmkoaa.T
namespace Go.Proofs.Ytjegeghigfmkoaa.T
open Go.RowKit Go.Maps Go.Sort Go.Shelf Go.Proofs Go.Proofs.Ytjegeghigfmkoaa Go.Proofs.Ytjegeghigfmkoaa.X Go.Proofs.YtjegeghigfmkoaaW.PrintWords Go.Proofs.YtjegeghigfmkoaaW.PrintLast Go.Proofs.YtjegeghigfmkoaaW.PrintMore
set_option linter.unusedVariables false
set_option linter.unusedSimpArgs false
set_option maxRecDepth 100000
variable {F:Nat→Prop} {N:Nat} {w w' :World} {q b1 b2:Nat} {tv:Value} {tm:List Int} {s:St}
def flatP (ps:List S70):List Value:=ps.flatMap fun p=>[.int .i64 p.f0,.int .i64 p.f1.f0,.int .i64 p.f1.f1,.int .i64 p.f2]
theorem flatP_len (ps:List S70):(flatP ps).length=ps.length*4:=by
 induction ps with
 |nil=>rfl
 |cons p r ih=>unfold flatP at ih ⊢;rw[List.flatMap_cons,List.length_append,ih,List.length_cons];simp;omega
theorem flatP_snoc (ps:List S70) (p:S70):flatP (ps++[p])=flatP ps++[.int .i64 p.f0,.int .i64 p.f1.f0,.int .i64 p.f1.f1,.int .i64 p.f2]:=by unfold flatP;simp
theorem reps_flat (w:World) (base:Nat) (ok:Nat→Prop): ∀ps:List S70,Reps (k70.M w base ok) 4 ps (flatP ps)
 |[]=>Reps.none _ _
 |p::r=>Reps.c4 (k70_mkM _ _ _ p) (reps_flat w base ok r)
theorem R_flat {w:World} {base:Nat} {v:Value} {ps:List S70} (h:w.ownsRow base 70 4 v ps.length (flatP ps)):Kd.R k70 70 w base (fun _=>True) v ps:=
 ⟨fun _ _=>trivial,_,h,reps_flat _ _ _ _⟩
attribute [local go_sem] Oper.semAt_some
set_option maxHeartbeats 4000000 in
theorem Panes_in (n:Nat) (hn:6≤n) (h:IsS F N w q s):CallsIn Fence.wide n Try.prog 21 #[.pointer (some ⟨q,0,none⟩)] w fun e w'=> ∃v,e= .returned v∧Kd.R k70 70 w' w.heap.size (fun _=>True) v (sortP s.ps)∧Below w.heap.size w w' :=by
 obtain⟨b1,b2,tv,tm,h⟩:=h;obtain⟨D,m1,a1⟩:=h.all;obtain⟨c0,c1,c2,c3,c4,c5,c6⟩:=h.cells;have h1:1≤n:=by omega
 obtain⟨i0,hi,hz0,hz1,hz2⟩:=info_parts info70;have c4' :=pw_cell_below ((Below.refl w.heap.size w).alloc (Nat.le_refl _) (.cells #[.slice none 0 0] 44)) c4;refine callsIn_of_wp_marks Try.func21 rfl trivial ?_ rfl;simp only[Try.ntmps21,List.size_toArray,List.length_cons,List.length_nil,Nat.reduceAdd,Nat.reduceSub,Array.replicate_succ,Array.replicate_zero,List.push_toArray,List.append_toArray,List.nil_append,List.cons_append]
 gi_wp2_with (refine⟨trivial,?_⟩;gi_at_call 46;refine(all_in Fence.wide (n-1) trivial rfl _ _).mono ?_;rintro e w' ⟨rfl,rfl⟩)
 have bO:=Boxed.new w 44 (.slice none 0 0);have bN:=Boxed.new (w.alloc (.cells #[.slice none 0 0] 44)) 82 (.map (some b1));rw[World.size_alloc] at bN;have hB0:Below w.heap.size w ((w.alloc (.cells #[.slice none 0 0] 44)).alloc (.cells #[.map (some b1)] 82)):=((Below.refl _ w).alloc (Nat.le_refl _) _).alloc (by simp) _;have hlen:s.ps.length≤1000000:=Nat.le_trans h.len h.small;have hm2:=(m1.alloc (.cells #[.slice none 0 0] 44)).alloc (.cells #[.map (some b1)] 82)
 refine wpIn_rangeFunc_ownH rfl h1 (gf:=73) (lb:= #[.pointer (some ⟨w.heap.size+1,0,none⟩)]) rfl trivial (enters_of Try.func73 (by kernel_rfl) rfl)
  (all_stops Fence.wide (n-1) trivial rfl (by omega) (w.heap.size+1) b1 N D s.ps a1 h.p64 h.apart _ (by simp) bN.cell hm2) walksK_t (fun W l o o' hl ho h1 h2=>walksK_b W l o o' hl ho h1 h2) (Below.refl _ _) (fun _=>rfl)
  (fun pre W=>(∃v,Boxed W w.heap.size 44 v∧W.ownsRow w.heap.size 70 4 v pre.length (flatP pre)∧True)∧Below w.heap.size w W)
  (fun _ _ _=>False)
  ?hI (fun _ _ _ _ _ hs _ _=>hs)
  ⟨⟨_,bO.alloc _,World.ownsRow_nil _ _ _ _,trivial⟩,hB0⟩
  (fun x a' W=> ∃Bx,W.heap[Bx]? =some (.cells #[.int .i64 x.f0,.int .i64 x.f1.f0,.int .i64 x.f1.f1] 98 (0,0))∧a'={tmps:= #[.pointer (some ⟨q,0,none⟩),undef,.slice none 0 0,.pointer (some ⟨w.heap.size,0,none⟩),.pointer (some ⟨Bx,0,none⟩),.int .i64 x.f2,.pointer (some ⟨q,0,none⟩),.pointer (some ⟨q,0,none⟩),.pointer (some ⟨q,4,none⟩),.map (some b1),.func (.func 73) #[] #[.pointer (some ⟨w.heap.size+1,0,none⟩)],keyV x,.int .i64 x.f2,undef,undef,undef,undef,undef,undef,undef,undef,undef,undef,undef],defers:=[]}) ?hAx ?assign ?body ?done ?stop
 case hI=>exact OwnFrom.and (Own.from (holdsRow_own w.heap.size w.heap.size 44 70 4 (fun pre:List S70=>pre.length) (fun pre=>flatP pre) (fun pre v=>True)) _) (ownFrom_below (Nat.le_refl _) (by simp;omega))
 case hAx=>
  rintro x a' _ W W' row ⟨Bx,h2,h3⟩ hg hr;refine⟨Bx,(hg.block Bx (lt_of_block h2) (fun e=> ?_)).trans h2,h3⟩;obtain⟨_,o,ho,hc⟩:=hr Bx e.symm;rw[h2] at ho;cases ho;cases hc
 case assign=>
  rintro l pre x W K ⟨⟨v,hv,hrow,_⟩,hB⟩ hK;simp only[encE,k98]
  gi_wp2
  exact hK _ _ ((KeepsOthers.alloc _ _).from _) (KeepsWalks.alloc _ _) ⟨⟨v,hv.alloc _,hrow.alloc _,trivial⟩,hB.alloc hB.size _⟩ ⟨W.heap.size,heap_alloc_new W _,rfl⟩
 case body=>
  rintro l pre x a' W hl hr ⟨⟨v,hv,hrow,_⟩,hB⟩ ⟨Bx,hbx,rfl⟩ hlt;rw[a1.size] at hlt;have hc:=hv.cell;have k0:=(blk_cell hbx 0).trans rfl;have k1:=(blk_cell hbx 1).trans rfl;have k2:=(blk_cell hbx 2).trans rfl
  gi_wp2_with (gi_at_builtin;refine wpListIn_append_own _ rfl _ _ 44 rfl w.heap.size 70 i0 _ 4 32 Try.underlying44 hi hz0 hz1 hz2 rfl (by decide) _ _ _ rfl (hrow.alloc _) ⟨W.heap.size,0,none⟩ 1 1 [.int .i64 x.f0,.int .i64 x.f1.f0,.int .i64 x.f1.f1,.int .i64 x.f2] rfl rfl (World.news_of_block (cs:= #[.int .i64 x.f0,.int .i64 x.f1.f0,.int .i64 x.f1.f1,.int .i64 x.f2]) (t:=70) (fr:=(0,0)) (heap_alloc_new W _)) (by simp[Value.oneCell']) (by unfold maxLen;omega) (by omega) (by have:=hB.size;simp;omega) ?_;intro v' w1 hown' hgrow _;obtain⟨g',cap',rfl⟩:=ownsRow_succ hown';obtain⟨hv1,hv2,hr2,hk2,hb2⟩:=hv.appended (by decide) hrow hB.size (Nat.le_refl _) hown' hgrow;have hc1:=hv1.cell;have hf1:=hv1.frozen)
  have hkw:KeepsWalks W (w1.setCell ⟨w.heap.size,0,none⟩ (.slice (some ⟨g',0,none⟩) (pre.length+1) cap')):=((KeepsWalks.alloc W _).trans (KeepsWalks.of_grownBy hgrow (fun j o e hj=>by
   obtain⟨_,⟨rfl,_⟩|⟨g,cap,cur,rfl,_,hb,_⟩⟩:=hrow
   ·cases e
   ·injection e with e
    have e:g=j:=e;have hb2:=(Below.heap_alloc W (.cells #[.int .i64 x.f0,.int .i64 x.f1.f0,.int .i64 x.f1.f1,.int .i64 x.f2] 70) g (lt_of_block hb)).trans hb;rw[e,hj] at hb2;cases hb2;rfl))).trans (KeepsWalks.setCell _ _ _)
  exact⟨hk2.from _,hkw,⟨_,hv2,by rw[flatP_snoc,List.length_append];exact hr2,trivial⟩,hB.trans hb2⟩
 case done=>
  rintro D ys W hD hperm ⟨⟨v,hv,hrow,_⟩,hB⟩ hK;have hc:=hv.cell;have hR:=R_flat hrow;obtain⟨A,c,rfl⟩:=own_slice hrow;obtain⟨_,hcc,hC⟩:=Kd.R_reads' hR;have hyl:ys.length<4398046511104:=by rw[hperm.length_eq];omega
  have KS:=window_Sort.calls A c ys (sortP ys) W hC hcc (by rw[window_Sort.f,if_pos hyl]);have HP:=Aside0.mk hperm;have HB:=Aside0.mk hB;clear hrow hR hC
  gi_wp2_with (refine⟨trivial,?_⟩;gi_at_call 47;refine(callsIn_wide.2 KS).mono ?_;clear KS;rintro e w5 ⟨v5,rfl,hR5,hb5⟩;have HR5:=Aside0.mk hR5;have HB5:=Aside0.mk hb5;have hK5:=(hb5.block D (lt_of_block hK)).trans hK;clear hR5 hb5)
  refine⟨by simp,.inl ⟨_,_,rfl,run_takeDeferred hK5,?_⟩⟩;refine⟨_,results_tmp rfl _ _ _,v5,rfl,?_,?_⟩
  ·rw[←Th.sortP_congr HP.out]
   have h1:=Kd.R_mono (ok' :=fun _=>True) (Kd.R_move (w1:=w5.putObj D (.deferred none)) (Kd.R_bound HR5.out) (fun k hk=>by
    obtain⟨_,_,_,_,_,cells,hc⟩:=hk;exact World.putObj_heap_other (fun e=>by rw[e,hK5] at hc;cases hc))) (fun _ _=>trivial)
   exact Kd.R_lower h1 HB.out.size
  ·exact(HB.out.trans (HB5.out.mono HB.out.size)).trans (belowK_b (w:=w) (Nat.le_refl _) w5 D _ _ (by simp at hD;omega) hK5 rfl rfl)
 case stop=>
  rintro D c pre W _ _ h _;exact h.elim
theorem Panes_calls (h:IsS F N w q s):Calls Try.prog 21 #[.pointer (some ⟨q,0,none⟩)] w fun e w'=> ∃v,e= .returned v∧Kd.R k70 70 w' w.heap.size (fun _=>True) v (sortP s.ps)∧Below w.heap.size w w' :=
 (callsIn_wide (n:=6)).1 (Panes_in 6 (Nat.le_refl _) h)
end Go.Proofs.Ytjegeghigfmkoaa.T
namespace Go.Proofs.Ytjegeghigfmkoaa.T
open Go.RowKit Go.Maps Go.Sort Go.Proofs Go.Proofs.Ytjegeghigfmkoaa Go.Proofs.Ytjegeghigfmkoaa.X Go.Proofs.YtjegeghigfmkoaaW.PrintWords Go.Proofs.YtjegeghigfmkoaaW.PrintLast Go.Proofs.YtjegeghigfmkoaaW.PrintMore
set_option linter.unusedVariables false
set_option linter.unusedSimpArgs false
set_option maxRecDepth 100000
variable {F:Nat→Prop} {N:Nat} {w w' :World} {q b1 b2:Nat} {tv:Value} {tm:List Int} {s:St}
def loadP (a:Int) (ps:List S70) (p:S70):List S70:=if hasP p ps then layP ⟨p.f0,p.f1,aggMerge a (accP p ps) p.f2⟩ ps else layP p ps
def loadL (a:Int) (l:List S70):List S70:=l.foldl (loadP a) []
def loadOf (kind a:Int) (l:List S70):List S70:=if kind=3 then sortP (joinF a l.length l []) else l
theorem emptied {c1 c2:Nat} {wr:World} (h:IsS F N w q s) (hQ:wr.heap[q]? =some (.cells #[.int .i64 s.kind,.int .i64 s.size,.int .i64 s.slide,.int .i64 s.a,.map (some c1),.slice none 0 0,.map (some c2)] 87 (0,0)))
  (h1:wr.heap[c1]? =some (.map #[] 0)) (h2:wr.heap[c2]? =some (.map #[] 0)) (hne:c1≠c2) (l1:w.heap.size≤c1) (l2:w.heap.size≤c2) (fr:Fr F w wr):IsS (Fx F w wr) 0 wr q {s with ps:=[]}:=by
 obtain⟨b1,b2,tv,tm,h⟩:=h;refine⟨c1,c2,.slice none 0 0,[],⟨hQ,⟨.map [],⟨_,_,h1,?_⟩,Al.nil⟩,⟨.map [],⟨_,_,h2,?_⟩,Ed.nil⟩,own_nil _ _ _ _,fun i h0 hi=>by simp at hi,Nat.le_refl _,fun p hp=>(by cases hp),fun x hx=>(by cases hx),Or.inl h.fq,Or.inr ⟨l1,lt_of_block h1⟩,Or.inr ⟨l2,lt_of_block h2⟩,fun g hg=>(by cases hg),hne,List.Pairwise.nil,fun p hp=>(by cases hp),by omega,Fx.bound h.bound fr.size,Nat.le_refl _⟩⟩
 ·obtain⟨es,c,hb,r⟩:=World.ownsMap_made w Try.prog 98 RA;rw[heap_alloc_new] at hb;cases hb;exact r
 ·obtain⟨es,c,hb,r⟩:=World.ownsMap_made w Try.prog 2 RE;rw[heap_alloc_new] at hb;cases hb;exact r
theorem far_map {W:World} {c:Nat} {o:Obj} (h:W.heap[c]? =some o) {p:Addr} (hp:c≠p.block) (u:Value):(W.setCell p u).heap[c]? =some o:=(Below.heap_setCell W p u c hp).trans h
theorem absorbF_64 (a:Int): ∀(k:Nat) (p:S70) (l:List S70),P64 p→(∀x ∈ l,P64 x)→P64 (absorbF a k p l).1∧ ∀x ∈(absorbF a k p l).2,P64 x
 |0,p,l,hp,hl=>⟨hp,hl⟩
 | k+1,p,l,hp,hl=>by
  rw[absorbF];split
  ·exact⟨hp,hl⟩
  ·rename_i i hi;have hlt:=(List.findIdx?_eq_some_iff_getElem.1 hi).1
   have hg:l.getD i z70 ∈ l:=by
    rw[List.getD_eq_getElem?_getD,List.getElem?_eq_getElem hlt];exact List.getElem_mem hlt
   exact absorbF_64 a k _ _ (join_64 a hp (hl _ hg)) (fun x hx=>hl x (List.mem_of_mem_eraseIdx hx))
theorem joinF_64 (a:Int): ∀(k:Nat) (l out:List S70),(∀x ∈ l,P64 x)→(∀x ∈ out,P64 x)→ ∀x ∈ joinF a k l out,P64 x
 |0,_,_,_,ho=>ho
 |_+1,[],_,_,ho=>ho
 | k+1,p::r,out,hl,ho=>by
  have h:=absorbF_64 a (r.length+1) p r (hl p (List.mem_cons_self ..)) (fun x hx=>hl x (List.mem_cons_of_mem _ hx));refine joinF_64 a k _ _ h.2 (fun x hx=> ?_);rcases List.mem_append.1 hx with hx|hx
  ·exact ho x hx
  ·rw[List.mem_singleton.1 hx];exact h.1
theorem joinF_len (a:Int): ∀(k:Nat) (l out:List S70),(joinF a k l out).length≤l.length+out.length
 |0,_,_=>by rw[joinF];omega
 |_+1,[],_=>by rw[joinF];omega
 |k+1,p::r,out=>by
  rw[joinF];have h1:=joinF_len a k (absorbP a p r).2 (out++[(absorbP a p r).1]);have h2:=absorbP_len a p r;simp only[List.length_append,List.length_cons,List.length_nil] at h1 ⊢;omega
theorem loadOf_64 {kind a:Int} {l:List S70} (h: ∀x ∈ l,P64 x): ∀x ∈ loadOf kind a l,P64 x:=by
 unfold loadOf;split
 ·intro x hx;exact joinF_64 a _ _ [] h (fun x hx=>by cases hx) x ((Th.sortP_perm _).mem_iff.1 hx)
 ·exact h
theorem loadOf_len (kind a:Int) (l:List S70):(loadOf kind a l).length≤l.length:=by
 unfold loadOf;split
 ·rw[sortP_len];exact joinF_len a _ l []
 ·exact Nat.le_refl _
structure Ll (F3:Nat→Prop) (w w3:World) (q:Nat) (S:Nat→Prop) (A:Option Addr) (s:St) (l:List S70) (i:Nat) (wr:World) (F1:Nat→Prop):Prop where
 is:IsS F1 i wr q {s with ps:=loadL s.a (l.take i)}
 fr:Fr F3 w3 wr
 old: ∀k,F1 k→F3 k∨w3.heap.size≤k
 row:Kd.F k70 wr S A l.length l
theorem loadL_snoc (a:Int) (l:List S70) (p:S70):loadL a (l++[p])=loadP a (loadL a l) p:=by unfold loadL;rw[List.foldl_append];rfl
theorem Ll.next {F3 F1:Nat→Prop} {w3 wr w5 w6:World} {S:Nat→Prop} {A:Option Addr} {l:List S70} {i:Nat} (HQ:Ll F3 w w3 q S A s l i wr F1) (hb:Below wr.heap.size wr w5) (hto:To F1 w5 w6 (i+1) q {s with ps:=loadL s.a (l.take (i+1))}) (hS: ∀k,S k→ ¬F3 k∧k<w3.heap.size):Ll F3 w w3 q S A s l (i+1) w6 (Fx F1 w5 w6):=by
 have s1:=hb.size;have s2:=hto.fr.size;have s3:=HQ.fr.size;have fr2:Fr F1 wr w6:=⟨hto.fr.os.trans hb.os,hto.fr.tape.trans hb.tape,hto.fr.output.trans hb.output,by omega,fun k hk hn=>(hto.fr.block k (by omega) hn).trans (hb.block k hk)⟩
 refine⟨hto.is,HQ.fr.mix HQ.old fr2 (Fr.refl (fun _=>False) w6) (fun _ h=>h.elim),fun k hk=> ?_,Kd.F_step HQ.row (fun k hk hlt=>fr2.block k hlt (fun m=> ?_))⟩
 ·rcases hk with hk|hk
  ·exact HQ.old k hk
  ·exact Or.inr (by omega)
 ·have h1:=hS k hk;rcases HQ.old k m with h|h
  ·exact h1.1 h
  ·omega
def Tld.T8:Bool×List (List Nat×List Nat):=(true,[([],[]),([0],[0]),([1],[1]),([2],[2]),([],[]),([],[]),([5],[5]),([3,4,6],[3,4,6]),([0,1,2,3,4,5,6,7],[]),([8,7,7,0,1,2,3,4,5,6,7],[7,8])])
def Tld.B8:List Nat:=[0,1,3,7,0,0,32,127,255,511]
theorem Tld.tab8:rtab .any (opsOf Try.f20 8)=Tld.T8:=by kernel_rfl
theorem Tld.bits8:waitsOk Tld.T8.2 Tld.B8=true:=by kernel_rfl
set_option maxHeartbeats 4000000 in
theorem Load_calls (h:IsS F N w q s) (A:Option Addr) (c:Nat) (l:List S70) (S:Nat→Prop) (hF:Kd.F k70 w S A l.length l) (hc:l.length≤c) (hS: ∀k,S k→ ¬F k∧k<w.heap.size) (h64: ∀p ∈ l,P64 p) (hl:l.length≤1000000):
  Calls Try.prog 20 #[.pointer (some ⟨q,0,none⟩),.slice A l.length c] w fun e w'=>e= .returned (.tuple #[])∧To F w w' (loadOf s.kind s.a l).length q {s with ps:=loadL s.a (loadOf s.kind s.a l)}:=by
 have HI:=Aside0.mk h;have HF:=Aside0.mk hF;have HS:=Aside0.mk hS;have H64:=Aside0.mk (loadOf_64 (kind:=s.kind) (a:=s.a) h64);have HLE:=loadOf_len s.kind s.a l;have HL0:=Aside0.mk (And.intro hl hc);have HL:=Aside0.mk (Nat.le_trans HLE hl);clear hF hS h64 hl hc HLE;obtain⟨b1,b2,tv,tm,h⟩:=h;have hq:=h.at_;have hlq:=lt_of_block hq;have hmm:= @run_makeMap Try.prog;have hq1:=blk_alloc (blk_alloc hq (.map #[] 0)) (.map #[] 0);have hq2:=blk_set hq1 4 (.map (some w.heap.size));have hq3:=blk_set hq2 6 (.map (some (w.heap.size+1)));have hq4:=blk_set hq3 5 (.slice none 0 0);have g4:=blk_frozen hq1 4;have g6:=blk_frozen hq2 6;have g5:=blk_frozen hq3 5;have e4:=(blk_cell hq1 4).trans rfl;have e6:=(blk_cell hq2 6).trans rfl;have e5:=(blk_cell hq3 5).trans rfl;have hm1:=blk_alloc (heap_alloc_new w (.map #[] 0)) (.map #[] 0);have hm2:=heap_alloc_new (w.alloc (.map #[] 0)) (.map #[] 0);have hsz:(w.alloc (.map #[] 0)).heap.size=w.heap.size+1:=by simp
 rw[hsz] at hm2;have hn1:w.heap.size≠q:=by omega
 have hn2:w.heap.size+1≠q:=by omega
 have hm1:=far_map (far_map (far_map hm1 (p:=⟨q,4,none⟩) hn1 (.map (some w.heap.size))) (p:=⟨q,6,none⟩) hn1 (.map (some (w.heap.size+1)))) (p:=⟨q,5,none⟩) hn1 (.slice none 0 0);have hm2:=far_map (far_map (far_map hm2 (p:=⟨q,4,none⟩) hn2 (.map (some w.heap.size))) (p:=⟨q,6,none⟩) hn2 (.map (some (w.heap.size+1)))) (p:=⟨q,5,none⟩) hn2 (.slice none 0 0);have hfr:=(((((Fr.refl F w).alloc (.map #[] 0)).alloc (.map #[] 0)).setCell (p:=⟨q,4,none⟩) h.fq (.map (some w.heap.size))).setCell (p:=⟨q,6,none⟩) h.fq (.map (some (w.heap.size+1)))).setCell (p:=⟨q,5,none⟩) h.fq (.slice none 0 0);have HQ:=Aside0.mk (emptied HI.out hq4 hm1 hm2 (by omega) (by omega) (by omega) hfr);have HFR:=Aside0.mk hfr;have c0:=(blk_cell hq4 0).trans rfl;have c3:=(blk_cell hq4 3).trans rfl;clear hq hq1 hq2 hq3 hq4 h hlq hm1 hm2 hsz hn1 hn2 hfr;by_cases hk:s.kind=3
 ·rw [hk] at c0;have KJ:Aside0 (∀W,Kd.C k70 W A l.length l→Calls Try.prog 43 #[.int .i64 s.a,.slice A l.length c] W fun e w'=> ∃v0_:Value,e= .returned (v0_)∧Kd.R k70 70 w' W.heap.size (fun _=>True) v0_ (loadOf s.kind s.a l)∧Below W.heap.size W w'):=⟨fun W h=>window_Join.calls s.a A c l _ W h HL0.out.2 (by rw[window_Join.f,if_pos (by have:=HL0.out.1;omega),loadOf,if_pos hk])⟩
  generalize hll:loadOf s.kind s.a l=ll at H64 HL KJ ⊢;clear hll hk;go_enter Try.func20,Try.ntmps20
  go_wp2_with (
   go_at_call 43;have HF1:=Aside0.mk (Kd.F_step HF.out (fun k hk hlt=>HFR.out.block k hlt (HS.out k hk).1));refine(KJ.out _ (Kd.F_now HF1.out)).mono ?_;rintro e w3 ⟨v3,rfl,hR3,hb3⟩;obtain⟨A3,c3',rfl⟩:=Kd.R_slice hR3;have HF3:=Aside0.mk (Kd.F_mono (Kd.R_F (Kd.R_bound hR3)) (fun k hk=>And.intro hk.2.1 hk.2.2.1));have HQ3:=Aside0.mk (HQ.out.below hb3);have HFR3:=Aside0.mk (HFR.out.below hb3);have HB3:=Aside0.mk (And.intro hb3.size HQ.out.bound);clear hR3 hb3 HF1 KJ)
  clear g4 g5 g6 e4 e5 e6 c0 c3 HQ HFR hmm;generalize (((((w.alloc (.map #[] 0)).alloc (.map #[] 0)).setCell ⟨q,4,none⟩ (.map (some w.heap.size))).setCell ⟨q,6,none⟩ (.map (some (w.heap.size+1)))).setCell ⟨q,5,none⟩ (.slice none 0 0))=w2 at HF3 HQ3 HB3;obtain⟨S3,hS3⟩: ∃S:Nat→Prop,S=fun k=>w2.heap.size≤k∧k<w3.heap.size:=⟨_,rfl⟩
  rw[←hS3] at HF3;obtain⟨F3,hF3⟩: ∃S:Nat→Prop,S=Fx F w w2:=⟨_,rfl⟩
  rw[←hF3] at HQ3 HB3
  have HS3:Aside0 (∀k,S3 k→ ¬F3 k∧k<w3.heap.size):=⟨fun k hk=>by
   subst hS3;exact⟨fun h=>by have:=HB3.out.2 k h;omega,hk.2⟩⟩
  have HF30:Aside0 (∀k,F3 k→F k∨(w.heap.size≤k∧k<w3.heap.size)):=⟨fun k hk=>by
   subst hF3;rcases hk with hk|hk
   ·exact Or.inl hk
   ·exact Or.inr ⟨hk.1,Nat.lt_of_lt_of_le hk.2 HB3.out.1⟩⟩
  clear hS3 hF3 HB3 HF HS HL0 w2;have HLQ:Aside0 (Ll F3 w w3 q S3 A3 s ll 0 w3 F3):=⟨⟨HQ3.out,Fr.refl _ _,fun k hk=>Or.inl hk,HF3.out⟩⟩
  clear HQ3 HF3;go_loopg [33] ll.length (fun kx s33 wr=> ∃(i:Nat) (F1:Nat→Prop),s33= .int .i64 i∧ll.length-i≤kx∧i≤ll.length∧Aside0 (Ll F3 w w3 q S3 A3 s ll i wr F1))
  case atStart=>exact⟨0,F3,rfl,by omega,by omega,HLQ⟩
  case round=>
   clear HLQ;obtain⟨i,F1,rfl,hkx,hi,HQ⟩:=hrel;by_cases hlt:i<ll.length
   ·have hlz:((i:Int)<(ll.length:Int)):=by omega
    have hiz:(0:Int)≤(i:Int):=by omega
    obtain⟨ad,rfl,x0,x1,x2,x3⟩:=at_T70 (Kd.F_now HQ.out.row) (i:Int) hiz hlz;obtain⟨z,hz⟩: ∃z:S70,ll[i]=z:=⟨_,rfl⟩
    have hgd:rd_T70 ll (i:Int)=z:=by rw[←hz];simp[rd_T70,hlt]
    rw[hgd] at x0 x1 x2 x3;have hin:((i:Int)).toNat=i:=by omega
    rw[hin] at x0 x1 x2 x3;have HZ:Aside0 (loadL s.a (ll.take (i+1))=loadP s.a (loadL s.a (ll.take i)) z):=⟨by rw[←hz,←loadL_snoc,List.take_append_getElem hlt]⟩
    have hz64:P64 z:=H64.out z (by rw[←hz];exact List.getElem_mem hlt);have hwi:wrap64 ((i:Int)+1)=((i+1:Nat):Int):=by have:=HL.out;unfold wrap64;omega
    have HZ64:=Aside0.mk hz64;have HI1:=Aside0.mk (And.intro hkx (And.intro hi hlt));clear hkx hi hz hgd hin hz64 hlt;go_wp2_with fail;have HBB:=Aside0.mk ((Below.refl wr.heap.size wr).alloc (Nat.le_refl _) (.cells #[.int .i64 z.f0,.int .i64 z.f1.f0,.int .i64 z.f1.f1,.int .i64 z.f2] 70));have HPB:=Aside0.mk (heap_alloc_new wr (.cells #[.int .i64 z.f0,.int .i64 z.f1.f0,.int .i64 z.f1.f1,.int .i64 z.f2] 70));have HIS:=Aside0.mk (HQ.out.is.below HBB.out);generalize hw4:(wr.alloc (.cells #[.int .i64 z.f0,.int .i64 z.f1.f0,.int .i64 z.f1.f1,.int .i64 z.f2] 70))=w4 at HBB HPB HIS ⊢;generalize hpl:loadL s.a (ll.take i)=pl at HZ HIS;clear hw4 hpl x0 x1 x2 x3;obtain⟨d1,d2,tv',tm',hd⟩:=id HIS.out;obtain⟨y0,y1,y2,y3,y4,y5,y6⟩:=hd.cells;have p0:=(blk_cell HPB.out 0).trans rfl;have p1:=(blk_cell HPB.out 1).trans rfl;have p2:=(blk_cell HPB.out 2).trans rfl;have p3:=(blk_cell HPB.out 3).trans rfl;have hlook:=hd.look HZ64.out;have hlook' :=(hd.below (below_drew (Below.refl _ _))).look HZ64.out;rw[k98] at hlook hlook';dsimp only at hlook hlook';clear hd;go_region;have HIS2:=Aside0.mk (HIS.out.below (below_drew (Below.refl _ _)));have HPB2:=Aside0.mk (blk_drew HPB.out);have HBB2:=Aside0.mk (below_drew HBB.out);clear hlook hlook' y0 y1 y2 y3 y4 y5 y6 p0 p1 p2 p3 HIS HPB HBB;generalize w4.drew=w5 at HIS2 HPB2 HBB2 ⊢;clear w4;have p0:=(blk_cell HPB2.out 0).trans rfl;have p1:=(blk_cell HPB2.out 1).trans rfl;have p2:=(blk_cell HPB2.out 2).trans rfl;have p3:=(blk_cell HPB2.out 3).trans rfl;cases hhas:hasP z pl with
    |false=>
     have KL:=lay_calls HIS2.out (by have:=HL.out;have:=HI1.out;omega) z HZ64.out;rw[loadP,if_neg (by rw[hhas];decide)] at HZ;go_wp2_with (go_at_call 45;refine KL.mono ?_;clear KL;rintro e w6 ⟨rfl,hto⟩;have HTO:=Aside0.mk hto;clear hto);rw[hwi];go_roundg (ll.length- (i+1))
     case measure=>have:=HI1.out;omega
     case rel=>exact⟨i+1,_,rfl,Nat.le_refl _,HI1.out.2.2,⟨HQ.out.next HBB2.out (by rw[HZ.out];exact HTO.out) HS3.out⟩⟩
    | true=>
     have hA64:=accP_in (p:=z) HIS2.out.p64;rw[loadP,if_pos hhas] at HZ;have c3:=HIS2.out;obtain⟨d1,d2,tv',tm',hd⟩:=c3;have c3:=hd.cells.2.2.2.1;dsimp only at c3 hA64;have HZ2:Aside0 (P64 ⟨z.f0,z.f1,aggMerge s.a (accP z pl) z.f2⟩):=⟨⟨HZ64.out.k,HZ64.out.f,HZ64.out.t,mergeA_in _ _ _ hA64 HZ64.out.a⟩⟩
     clear hA64;go_wp2_with fail;refine start_ (n:=10) (S:=fun w'=>w'.cell? ⟨q,3,none⟩=some (.int .i64 s.a)∧w'.cell? ⟨wr.heap.size,3,none⟩=some (.int .i64 z.f2)) (ds:=[9]) #[false,false,false,false,false,false,false,false,false,false] (by kernel_rfl) rfl rfl ⟨c3,p3⟩ (fun hHeld=> ?_);refine with_tabW Tld.tab8 Tld.bits8 (fun HT_ HW_=> ?_);clear c3 p0 p1 p2 p3 hd;have HBd:=Aside0.mk (below_drew HBB2.out);have HPd:=Aside0.mk (blk_drew HPB2.out);have HId:=Aside0.mk (HIS2.out.below (below_drew (Below.refl _ _)));clear HIS2 HPB2 HBB2;generalize World.drew w5=w6 at HBd HPd HId hHeld ⊢;refine pure_ (i:=0) (N:=some 51) (v:= ?_) (a' := ?_) #[true,false,false,false,false,false,false,false,false,false] rfl rfl (any_of HT_.out (by kernel_rfl)) (fun _ _ _ h=>h) (Or.inl ⟨by rfl,?_⟩) ?_ ?_;rotate_left
     ·intro w';go_simp
      with_reducible rfl
     rotate_left
     ·simp only[Act.put,List.setIfInBounds_toArray,List.set_cons_zero,List.set_cons_succ,i64_w,i32_w];rfl
     refine pure_ (i:=1) (N:=some 52) (v:= ?_) (a' := ?_) #[true,true,false,false,false,false,false,false,false,false] rfl rfl (any_of HT_.out (by kernel_rfl)) (fun _ _ _ h=>h) (Or.inl ⟨by rfl,?_⟩) ?_ ?_;rotate_left
     ·intro w';go_simp
      with_reducible rfl
     rotate_left
     ·simp only[Act.put,List.setIfInBounds_toArray,List.set_cons_zero,List.set_cons_succ,i64_w,i32_w];rfl
     refine pure_ (i:=2) (N:=some 53) (v:= ?_) (a' := ?_) #[true,true,true,false,false,false,false,false,false,false] rfl rfl (any_of HT_.out (by kernel_rfl)) (fun _ _ _ h=>h) (Or.inl ⟨by rfl,?_⟩) ?_ ?_;rotate_left
     ·intro w';go_simp
      with_reducible rfl
     rotate_left
     ·simp only[Act.put,List.setIfInBounds_toArray,List.set_cons_zero,List.set_cons_succ,i64_w,i32_w];rfl
     refine take_ (i:=3) (N:=some 54) (v:= ?_) (a' := ?_) #[true,true,true,true,false,false,false,false,false,false] rfl rfl (take_ofW HT_.out HW_.out (by kernel_rfl)) (fun _ _ _ h=>h) (Or.inl ⟨by rfl,?_⟩) hHeld ?_ ?_;rotate_left
     ·rintro w' ⟨s0,s1⟩;go_simp
      with_reducible rfl
     rotate_left
     ·simp only[Act.put,List.setIfInBounds_toArray,List.set_cons_zero,List.set_cons_succ,i64_w,i32_w];rfl
     refine pure_ (i:=4) (N:=some 55) (v:= ?_) (a' := ?_) #[true,true,true,true,true,false,false,false,false,false] rfl rfl (any_of HT_.out (by kernel_rfl)) (fun _ _ _ h=>h) (Or.inl ⟨by rfl,?_⟩) ?_ ?_;rotate_left
     ·intro w';go_simp
      with_reducible rfl
     rotate_left
     ·simp only[Act.put,List.setIfInBounds_toArray,List.set_cons_zero,List.set_cons_succ,i64_w,i32_w];rfl
     refine pure_ (i:=5) (N:=some 56) (v:= ?_) (a' := ?_) #[true,true,true,true,true,true,false,false,false,false] rfl rfl (any_of HT_.out (by kernel_rfl)) (fun _ _ _ h=>h) (Or.inl ⟨by rfl,?_⟩) ?_ ?_;rotate_left
     ·intro w';go_simp
      with_reducible rfl
     rotate_left
     ·simp only[Act.put,List.setIfInBounds_toArray,List.set_cons_zero,List.set_cons_succ,i64_w,i32_w];rfl
     refine take_ (i:=6) (N:=some 57) (v:= ?_) (a' := ?_) #[true,true,true,true,true,true,true,false,false,false] rfl rfl (take_ofW HT_.out HW_.out (by kernel_rfl)) (fun _ _ _ h=>h) (Or.inl ⟨by rfl,?_⟩) hHeld ?_ ?_;rotate_left
     ·rintro w' ⟨s0,s1⟩;go_simp
      with_reducible rfl
     rotate_left
     ·simp only[Act.put,List.setIfInBounds_toArray,List.set_cons_zero,List.set_cons_succ,i64_w,i32_w];rfl
     refine one_ (i:=7) (N:=some 58) #[true,true,true,true,true,true,true,true,false,false] rfl rfl (one_of HT_.out (by kernel_rfl)) (by decide) (fun K hK=> ?_);refine goes_ Try.func44 (by kernel_rfl) rfl #[.int .i64 s.a,.int .i64 (accP z pl),.int .i64 z.f2] (by rfl) rfl rfl (by(try simp only[List.map_toArray,List.map_cons,List.map_nil]);first|done|rfl) ?_;refine(merge_any s.a (accP z pl) z.f2 _).mono ?_;rintro e w7 ⟨rfl,hb7⟩;refine⟨_,rfl,?_⟩;have HP7:=Aside0.mk (blk_below HPd.out hb7);have HI7:=Aside0.mk (HId.out.below hb7);have HB7:=Aside0.mk (HBd.out.trans (hb7.mono HBd.out.size));have hc7:w7.cell? ⟨q,3,none⟩=some (.int .i64 s.a):=by obtain⟨x1,x2,x3,x4,hx⟩:=HI7.out;exact hx.cells.2.2.2.1
     have f7:=blk_frozen HP7.out 3;have k7:=(blk_cell HP7.out 3).trans rfl;clear hb7;refine hK.out _ _ ⟨hc7,k7⟩ (fun hHeld=> ?_);clear hK K;refine norm_ (a' := ?_) ?_ ?_;rotate_left
     ·show Act.put _ (some 58) _=_;simp only[Act.put,List.setIfInBounds_toArray,List.set_cons_zero,List.set_cons_succ,i64_w,i32_w];rfl
     refine pure_ (i:=8) (N:=some 59) (v:= ?_) (a' := ?_) #[true,true,true,true,true,true,true,true,true,false] rfl rfl (any_of HT_.out (by kernel_rfl)) (fun _ _ _ h=>h) (Or.inl ⟨by rfl,?_⟩) ?_ ?_;rotate_left
     ·intro w';go_simp
      with_reducible rfl
     rotate_left
     ·simp only[Act.put,List.setIfInBounds_toArray,List.set_cons_zero,List.set_cons_succ,i64_w,i32_w];rfl
     refine last_ (i:=9) (N:=none) #[true,true,true,true,true,true,true,true,true,true] rfl rfl (one_of HT_.out (by kernel_rfl)) (by decide) (fun K hK=> ?_);refine skip_ (w1:=w7.setCell ⟨wr.heap.size,3,none⟩ (.int .i64 (aggMerge s.a (accP z pl) z.f2))) (by rfl) rfl ?_ ?_
     ·go_simp
      first|done|rfl|simp[Result.andThen]
     refine hK.out _ _ ?_;clear hK K;refine done_ (done_of HT_.out (by kernel_rfl)) ?_;have hB8:=HB7.out.setCell (p:=⟨wr.heap.size,3,none⟩) (Nat.le_refl _) (.int .i64 (aggMerge s.a (accP z pl) z.f2));have HB8:=Aside0.mk hB8;have HP8:=Aside0.mk (blk_set HP7.out 3 (.int .i64 (aggMerge s.a (accP z pl) z.f2)));have HI8:=Aside0.mk (HI7.out.fr (w' :=w7.setCell ⟨wr.heap.size,3,none⟩ (.int .i64 (aggMerge s.a (accP z pl) z.f2))) (M:=fun k=>k=wr.heap.size) (Fr.setCell (Fr.refl (fun k=>k=wr.heap.size) w7) (p:=⟨wr.heap.size,3,none⟩) rfl _) (fun k hk hf=>by have:=HQ.out.is.bound k hf;omega));generalize w7.setCell ⟨wr.heap.size,3,none⟩ (.int .i64 (aggMerge s.a (accP z pl) z.f2))=w8 at HB8 HP8 HI8 ⊢;clear hB8 HP7 HI7 HB7 hc7 f7 k7 HBd HPd HId hHeld;have KL:=lay_calls HI8.out (by have:=HL.out;have:=HI1.out;omega) ⟨z.f0,z.f1,aggMerge s.a (accP z pl) z.f2⟩ HZ2.out;have p0:=(blk_cell HP8.out 0).trans rfl;have p1:=(blk_cell HP8.out 1).trans rfl;have p2:=(blk_cell HP8.out 2).trans rfl;have p3:=(blk_cell HP8.out 3).trans rfl;go_wp2_with (go_at_call 45;refine KL.mono ?_;clear KL;rintro e w9 ⟨rfl,hto⟩;have HTO:=Aside0.mk hto;clear hto);rw[hwi];go_roundg (ll.length- (i+1))
     case measure=>have:=HI1.out;omega
     case rel=>exact⟨i+1,_,rfl,Nat.le_refl _,HI1.out.2.2,⟨HQ.out.next HB8.out (by rw[HZ.out];exact HTO.out) HS3.out⟩⟩
   ·have hlz: ¬((i:Int)<(ll.length:Int)):=by omega
    have HI1:=Aside0.mk (show i=ll.length from by omega);clear hlt hkx hi;go_wp2
    first|go_end0|((try simp only[Exit.inBlock,Exit.then]);refine bodyPost_ret (results_none rfl _ _ _) rfl ?_)
    have hI:=HQ.out.is;rw[HI1.out,List.take_length] at hI;have s3:=HQ.out.fr.size;have fr:Fr F w wr:=HFR3.out.mix (F1:=F3) (fun k hk=>(HF30.out k hk).imp_right (·.1)) HQ.out.fr (Fr.refl (fun _=>False) wr) (fun _ h=>h.elim);refine⟨rfl,hI.mono (fun k hk=> ?_) (fun k hk=> ?_) (Nat.le_refl _) hI.small,fr⟩
    ·rcases HQ.out.old k hk with h|h
     ·rcases HF30.out k h with h|h
      ·exact Or.inl h
      ·exact Or.inr ⟨h.1,by omega⟩
     ·exact Or.inr ⟨by have:=HFR3.out.size;omega,HQ.out.is.bound k hk⟩
    ·rcases hk with h|h
     ·have:=HI.out.bound k h;have:=fr.size;omega
     ·exact h.2
 ·have hk1:(s.kind==3)=false:=by simpa using hk
  have hll:loadOf s.kind s.a l=l:=by rw[loadOf,if_neg hk]
  rw[hll] at H64 HL ⊢;clear hll;go_enter Try.func20,Try.ntmps20;go_wp2_with fail;clear g4 g5 g6 e4 e5 e6 c0 c3 hmm;generalize (((((w.alloc (.map #[] 0)).alloc (.map #[] 0)).setCell ⟨q,4,none⟩ (.map (some w.heap.size))).setCell ⟨q,6,none⟩ (.map (some (w.heap.size+1)))).setCell ⟨q,5,none⟩ (.slice none 0 0))=w3 at HQ HFR ⊢;have HFR3:=HFR;have HQ3:=HQ;have HF3:=Aside0.mk (Kd.F_step HF.out (fun k hk hlt=>HFR.out.block k hlt (HS.out k hk).1));obtain⟨F3,hF3⟩: ∃S:Nat→Prop,S=Fx F w w3:=⟨_,rfl⟩
  rw[←hF3] at HQ3
  have HS3:Aside0 (∀k,S k→ ¬F3 k∧k<w3.heap.size):=⟨fun k hk=>by
   have h1:=HS.out k hk;subst hF3;exact⟨fun h=>by rcases h with h|h;exact h1.1 h;omega,Nat.lt_of_lt_of_le h1.2 HFR3.out.size⟩⟩
  have HF30:Aside0 (∀k,F3 k→F k∨(w.heap.size≤k∧k<w3.heap.size)):=⟨fun k hk=>by
   subst hF3;exact hk⟩
  clear hF3 HQ HFR HF HS HL0;have HLQ:Aside0 (Ll F3 w w3 q S A s l 0 w3 F3):=⟨⟨HQ3.out,Fr.refl _ _,fun k hk=>Or.inl hk,HF3.out⟩⟩
  clear HQ3 HF3;go_loopg [33] l.length (fun kx s33 wr=> ∃(i:Nat) (F1:Nat→Prop),s33= .int .i64 i∧l.length-i≤kx∧i≤l.length∧Aside0 (Ll F3 w w3 q S A s l i wr F1))
  case atStart=>exact⟨0,F3,rfl,by omega,by omega,HLQ⟩
  case round=>
   clear HLQ;obtain⟨i,F1,rfl,hkx,hi,HQ⟩:=hrel;by_cases hlt:i<l.length
   ·have hlz:((i:Int)<(l.length:Int)):=by omega
    have hiz:(0:Int)≤(i:Int):=by omega
    obtain⟨ad,rfl,x0,x1,x2,x3⟩:=at_T70 (Kd.F_now HQ.out.row) (i:Int) hiz hlz;obtain⟨z,hz⟩: ∃z:S70,l[i]=z:=⟨_,rfl⟩
    have hgd:rd_T70 l (i:Int)=z:=by rw[←hz];simp[rd_T70,hlt]
    rw[hgd] at x0 x1 x2 x3;have hin:((i:Int)).toNat=i:=by omega
    rw[hin] at x0 x1 x2 x3;have HZ:Aside0 (loadL s.a (l.take (i+1))=loadP s.a (loadL s.a (l.take i)) z):=⟨by rw[←hz,←loadL_snoc,List.take_append_getElem hlt]⟩
    have hz64:P64 z:=H64.out z (by rw[←hz];exact List.getElem_mem hlt);have hwi:wrap64 ((i:Int)+1)=((i+1:Nat):Int):=by have:=HL.out;unfold wrap64;omega
    have HZ64:=Aside0.mk hz64;have HI1:=Aside0.mk (And.intro hkx (And.intro hi hlt));clear hkx hi hz hgd hin hz64 hlt;go_wp2_with fail;have HBB:=Aside0.mk ((Below.refl wr.heap.size wr).alloc (Nat.le_refl _) (.cells #[.int .i64 z.f0,.int .i64 z.f1.f0,.int .i64 z.f1.f1,.int .i64 z.f2] 70));have HPB:=Aside0.mk (heap_alloc_new wr (.cells #[.int .i64 z.f0,.int .i64 z.f1.f0,.int .i64 z.f1.f1,.int .i64 z.f2] 70));have HIS:=Aside0.mk (HQ.out.is.below HBB.out);generalize hw4:(wr.alloc (.cells #[.int .i64 z.f0,.int .i64 z.f1.f0,.int .i64 z.f1.f1,.int .i64 z.f2] 70))=w4 at HBB HPB HIS ⊢;generalize hpl:loadL s.a (l.take i)=pl at HZ HIS;clear hw4 hpl x0 x1 x2 x3;obtain⟨d1,d2,tv',tm',hd⟩:=id HIS.out;obtain⟨y0,y1,y2,y3,y4,y5,y6⟩:=hd.cells;have p0:=(blk_cell HPB.out 0).trans rfl;have p1:=(blk_cell HPB.out 1).trans rfl;have p2:=(blk_cell HPB.out 2).trans rfl;have p3:=(blk_cell HPB.out 3).trans rfl;have hlook:=hd.look HZ64.out;have hlook' :=(hd.below (below_drew (Below.refl _ _))).look HZ64.out;rw[k98] at hlook hlook';dsimp only at hlook hlook';clear hd;go_region;have HIS2:=Aside0.mk (HIS.out.below (below_drew (Below.refl _ _)));have HPB2:=Aside0.mk (blk_drew HPB.out);have HBB2:=Aside0.mk (below_drew HBB.out);clear hlook hlook' y0 y1 y2 y3 y4 y5 y6 p0 p1 p2 p3 HIS HPB HBB;generalize w4.drew=w5 at HIS2 HPB2 HBB2 ⊢;clear w4;have p0:=(blk_cell HPB2.out 0).trans rfl;have p1:=(blk_cell HPB2.out 1).trans rfl;have p2:=(blk_cell HPB2.out 2).trans rfl;have p3:=(blk_cell HPB2.out 3).trans rfl;cases hhas:hasP z pl with
    |false=>
     have KL:=lay_calls HIS2.out (by have:=HL.out;have:=HI1.out;omega) z HZ64.out;rw[loadP,if_neg (by rw[hhas];decide)] at HZ;go_wp2_with (go_at_call 45;refine KL.mono ?_;clear KL;rintro e w6 ⟨rfl,hto⟩;have HTO:=Aside0.mk hto;clear hto);rw[hwi];go_roundg (l.length- (i+1))
     case measure=>have:=HI1.out;omega
     case rel=>exact⟨i+1,_,rfl,Nat.le_refl _,HI1.out.2.2,⟨HQ.out.next HBB2.out (by rw[HZ.out];exact HTO.out) HS3.out⟩⟩
    | true=>
     have hA64:=accP_in (p:=z) HIS2.out.p64;rw[loadP,if_pos hhas] at HZ;have c3:=HIS2.out;obtain⟨d1,d2,tv',tm',hd⟩:=c3;have c3:=hd.cells.2.2.2.1;dsimp only at c3 hA64;have HZ2:Aside0 (P64 ⟨z.f0,z.f1,aggMerge s.a (accP z pl) z.f2⟩):=⟨⟨HZ64.out.k,HZ64.out.f,HZ64.out.t,mergeA_in _ _ _ hA64 HZ64.out.a⟩⟩
     clear hA64;go_wp2_with fail;refine start_ (n:=10) (S:=fun w'=>w'.cell? ⟨q,3,none⟩=some (.int .i64 s.a)∧w'.cell? ⟨wr.heap.size,3,none⟩=some (.int .i64 z.f2)) (ds:=[9]) #[false,false,false,false,false,false,false,false,false,false] (by kernel_rfl) rfl rfl ⟨c3,p3⟩ (fun hHeld=> ?_);refine with_tabW Tld.tab8 Tld.bits8 (fun HT_ HW_=> ?_);clear c3 p0 p1 p2 p3 hd;have HBd:=Aside0.mk (below_drew HBB2.out);have HPd:=Aside0.mk (blk_drew HPB2.out);have HId:=Aside0.mk (HIS2.out.below (below_drew (Below.refl _ _)));clear HIS2 HPB2 HBB2;generalize World.drew w5=w6 at HBd HPd HId hHeld ⊢;refine pure_ (i:=0) (N:=some 51) (v:= ?_) (a' := ?_) #[true,false,false,false,false,false,false,false,false,false] rfl rfl (any_of HT_.out (by kernel_rfl)) (fun _ _ _ h=>h) (Or.inl ⟨by rfl,?_⟩) ?_ ?_;rotate_left
     ·intro w';go_simp
      with_reducible rfl
     rotate_left
     ·simp only[Act.put,List.setIfInBounds_toArray,List.set_cons_zero,List.set_cons_succ,i64_w,i32_w];rfl
     refine pure_ (i:=1) (N:=some 52) (v:= ?_) (a' := ?_) #[true,true,false,false,false,false,false,false,false,false] rfl rfl (any_of HT_.out (by kernel_rfl)) (fun _ _ _ h=>h) (Or.inl ⟨by rfl,?_⟩) ?_ ?_;rotate_left
     ·intro w';go_simp
      with_reducible rfl
     rotate_left
     ·simp only[Act.put,List.setIfInBounds_toArray,List.set_cons_zero,List.set_cons_succ,i64_w,i32_w];rfl
     refine pure_ (i:=2) (N:=some 53) (v:= ?_) (a' := ?_) #[true,true,true,false,false,false,false,false,false,false] rfl rfl (any_of HT_.out (by kernel_rfl)) (fun _ _ _ h=>h) (Or.inl ⟨by rfl,?_⟩) ?_ ?_;rotate_left
     ·intro w';go_simp
      with_reducible rfl
     rotate_left
     ·simp only[Act.put,List.setIfInBounds_toArray,List.set_cons_zero,List.set_cons_succ,i64_w,i32_w];rfl
     refine take_ (i:=3) (N:=some 54) (v:= ?_) (a' := ?_) #[true,true,true,true,false,false,false,false,false,false] rfl rfl (take_ofW HT_.out HW_.out (by kernel_rfl)) (fun _ _ _ h=>h) (Or.inl ⟨by rfl,?_⟩) hHeld ?_ ?_;rotate_left
     ·rintro w' ⟨s0,s1⟩;go_simp
      with_reducible rfl
     rotate_left
     ·simp only[Act.put,List.setIfInBounds_toArray,List.set_cons_zero,List.set_cons_succ,i64_w,i32_w];rfl
     refine pure_ (i:=4) (N:=some 55) (v:= ?_) (a' := ?_) #[true,true,true,true,true,false,false,false,false,false] rfl rfl (any_of HT_.out (by kernel_rfl)) (fun _ _ _ h=>h) (Or.inl ⟨by rfl,?_⟩) ?_ ?_;rotate_left
     ·intro w';go_simp
      with_reducible rfl
     rotate_left
     ·simp only[Act.put,List.setIfInBounds_toArray,List.set_cons_zero,List.set_cons_succ,i64_w,i32_w];rfl
     refine pure_ (i:=5) (N:=some 56) (v:= ?_) (a' := ?_) #[true,true,true,true,true,true,false,false,false,false] rfl rfl (any_of HT_.out (by kernel_rfl)) (fun _ _ _ h=>h) (Or.inl ⟨by rfl,?_⟩) ?_ ?_;rotate_left
     ·intro w';go_simp
      with_reducible rfl
     rotate_left
     ·simp only[Act.put,List.setIfInBounds_toArray,List.set_cons_zero,List.set_cons_succ,i64_w,i32_w];rfl
     refine take_ (i:=6) (N:=some 57) (v:= ?_) (a' := ?_) #[true,true,true,true,true,true,true,false,false,false] rfl rfl (take_ofW HT_.out HW_.out (by kernel_rfl)) (fun _ _ _ h=>h) (Or.inl ⟨by rfl,?_⟩) hHeld ?_ ?_;rotate_left
     ·rintro w' ⟨s0,s1⟩;go_simp
      with_reducible rfl
     rotate_left
     ·simp only[Act.put,List.setIfInBounds_toArray,List.set_cons_zero,List.set_cons_succ,i64_w,i32_w];rfl
     refine one_ (i:=7) (N:=some 58) #[true,true,true,true,true,true,true,true,false,false] rfl rfl (one_of HT_.out (by kernel_rfl)) (by decide) (fun K hK=> ?_);refine goes_ Try.func44 (by kernel_rfl) rfl #[.int .i64 s.a,.int .i64 (accP z pl),.int .i64 z.f2] (by rfl) rfl rfl (by(try simp only[List.map_toArray,List.map_cons,List.map_nil]);first|done|rfl) ?_;refine(merge_any s.a (accP z pl) z.f2 _).mono ?_;rintro e w7 ⟨rfl,hb7⟩;refine⟨_,rfl,?_⟩;have HP7:=Aside0.mk (blk_below HPd.out hb7);have HI7:=Aside0.mk (HId.out.below hb7);have HB7:=Aside0.mk (HBd.out.trans (hb7.mono HBd.out.size));have hc7:w7.cell? ⟨q,3,none⟩=some (.int .i64 s.a):=by obtain⟨x1,x2,x3,x4,hx⟩:=HI7.out;exact hx.cells.2.2.2.1
     have f7:=blk_frozen HP7.out 3;have k7:=(blk_cell HP7.out 3).trans rfl;clear hb7;refine hK.out _ _ ⟨hc7,k7⟩ (fun hHeld=> ?_);clear hK K;refine norm_ (a' := ?_) ?_ ?_;rotate_left
     ·show Act.put _ (some 58) _=_;simp only[Act.put,List.setIfInBounds_toArray,List.set_cons_zero,List.set_cons_succ,i64_w,i32_w];rfl
     refine pure_ (i:=8) (N:=some 59) (v:= ?_) (a' := ?_) #[true,true,true,true,true,true,true,true,true,false] rfl rfl (any_of HT_.out (by kernel_rfl)) (fun _ _ _ h=>h) (Or.inl ⟨by rfl,?_⟩) ?_ ?_;rotate_left
     ·intro w';go_simp
      with_reducible rfl
     rotate_left
     ·simp only[Act.put,List.setIfInBounds_toArray,List.set_cons_zero,List.set_cons_succ,i64_w,i32_w];rfl
     refine last_ (i:=9) (N:=none) #[true,true,true,true,true,true,true,true,true,true] rfl rfl (one_of HT_.out (by kernel_rfl)) (by decide) (fun K hK=> ?_);refine skip_ (w1:=w7.setCell ⟨wr.heap.size,3,none⟩ (.int .i64 (aggMerge s.a (accP z pl) z.f2))) (by rfl) rfl ?_ ?_
     ·go_simp
      first|done|rfl|simp[Result.andThen]
     refine hK.out _ _ ?_;clear hK K;refine done_ (done_of HT_.out (by kernel_rfl)) ?_;have hB8:=HB7.out.setCell (p:=⟨wr.heap.size,3,none⟩) (Nat.le_refl _) (.int .i64 (aggMerge s.a (accP z pl) z.f2));have HB8:=Aside0.mk hB8;have HP8:=Aside0.mk (blk_set HP7.out 3 (.int .i64 (aggMerge s.a (accP z pl) z.f2)));have HI8:=Aside0.mk (HI7.out.fr (w' :=w7.setCell ⟨wr.heap.size,3,none⟩ (.int .i64 (aggMerge s.a (accP z pl) z.f2))) (M:=fun k=>k=wr.heap.size) (Fr.setCell (Fr.refl (fun k=>k=wr.heap.size) w7) (p:=⟨wr.heap.size,3,none⟩) rfl _) (fun k hk hf=>by have:=HQ.out.is.bound k hf;omega));generalize w7.setCell ⟨wr.heap.size,3,none⟩ (.int .i64 (aggMerge s.a (accP z pl) z.f2))=w8 at HB8 HP8 HI8 ⊢;clear hB8 HP7 HI7 HB7 hc7 f7 k7 HBd HPd HId hHeld;have KL:=lay_calls HI8.out (by have:=HL.out;have:=HI1.out;omega) ⟨z.f0,z.f1,aggMerge s.a (accP z pl) z.f2⟩ HZ2.out;have p0:=(blk_cell HP8.out 0).trans rfl;have p1:=(blk_cell HP8.out 1).trans rfl;have p2:=(blk_cell HP8.out 2).trans rfl;have p3:=(blk_cell HP8.out 3).trans rfl;go_wp2_with (go_at_call 45;refine KL.mono ?_;clear KL;rintro e w9 ⟨rfl,hto⟩;have HTO:=Aside0.mk hto;clear hto);rw[hwi];go_roundg (l.length- (i+1))
     case measure=>have:=HI1.out;omega
     case rel=>exact⟨i+1,_,rfl,Nat.le_refl _,HI1.out.2.2,⟨HQ.out.next HB8.out (by rw[HZ.out];exact HTO.out) HS3.out⟩⟩
   ·have hlz: ¬((i:Int)<(l.length:Int)):=by omega
    have HI1:=Aside0.mk (show i=l.length from by omega);clear hlt hkx hi;go_wp2
    first|go_end0|((try simp only[Exit.inBlock,Exit.then]);refine bodyPost_ret (results_none rfl _ _ _) rfl ?_)
    have hI:=HQ.out.is;rw[HI1.out,List.take_length] at hI;have s3:=HQ.out.fr.size;have fr:Fr F w wr:=HFR3.out.mix (F1:=F3) (fun k hk=>(HF30.out k hk).imp_right (·.1)) HQ.out.fr (Fr.refl (fun _=>False) wr) (fun _ h=>h.elim);refine⟨rfl,hI.mono (fun k hk=> ?_) (fun k hk=> ?_) (Nat.le_refl _) hI.small,fr⟩
    ·rcases HQ.out.old k hk with h|h
     ·rcases HF30.out k h with h|h
      ·exact Or.inl h
      ·exact Or.inr ⟨h.1,by omega⟩
     ·exact Or.inr ⟨by have:=HFR3.out.size;omega,HQ.out.is.bound k hk⟩
    ·rcases hk with h|h
     ·have:=HI.out.bound k h;have:=fr.size;omega
     ·exact h.2
end Go.Proofs.Ytjegeghigfmkoaa.T
namespace Go.Proofs.Ytjegeghigfmkoaa.T
open Go.RowKit Go.Maps Go.Sort Go.Proofs Go.Proofs.Ytjegeghigfmkoaa Go.Proofs.Ytjegeghigfmkoaa.X Go.Proofs.YtjegeghigfmkoaaW.PrintWords Go.Proofs.YtjegeghigfmkoaaW.PrintLast Go.Proofs.YtjegeghigfmkoaaW.PrintMore
set_option linter.unusedVariables false
set_option linter.unusedSimpArgs false
set_option maxRecDepth 100000
variable {F:Nat→Prop} {N:Nat} {w w' :World} {q b1 b2:Nat} {tv:Value} {tm:List Int} {s:St}
def Idle (s:St) (m:Int):Prop:=(s.kind=0∧m≠9223372036854775807)∨ ∀p ∈ s.ps,m<lastP p
def firedR (s:St) (m:Int):List S39:=Th.outR m (sortP s.ps)
def firedL (s:St) (m:Int):List S70:=loadL s.a (loadOf s.kind s.a (Th.leftR m (sortP s.ps)))
theorem leftR_mem {m:Int} {l:List S70} {p:S70} (h:p ∈ Th.leftR m (sortP l)):p ∈ l:=(Th.sortP_perm l).mem_iff.1 (List.mem_filter.1 h).1
theorem leftR_len (m:Int) (l:List S70):(Th.leftR m (sortP l)).length≤l.length:=by
 have:=List.length_filter_le (fun p=> !Th.due m p) (sortP l);rw[sortP_len] at this;exact this
theorem next3 {ps:List S70} {t:Int} {b:Bool} (m:Int) (h:NextIs ps t b):(b=false∧Aside0 (∀p ∈ ps,m<lastP p))∨(b=true∧Aside0 (∀p ∈ ps,m<lastP p)∧t>m)∨(b=true∧Aside0 (∃p ∈ ps,lastP p≤m)∧ ¬t>m):=by
 rcases h with ⟨rfl,rfl,rfl⟩|⟨rfl,⟨p,hp,rfl⟩,h⟩
 ·exact Or.inl ⟨rfl,⟨fun p hp=>by cases hp⟩⟩
 ·by_cases ht:lastP p>m
  ·exact Or.inr (Or.inl ⟨rfl,⟨fun x hx=>by have:=h x hx;omega⟩,ht⟩)
  ·exact Or.inr (Or.inr ⟨rfl,⟨p,hp,by omega⟩,ht⟩)
theorem idle_end (m:Int) {w1:World} (hto:To F w w1 N q s) (h:Idle s m): ∃v out N' ps',Ending.returned (.slice none 0 0)=Ending.returned v∧Kd.R k39 39 w1 w.heap.size (fun _=>True) v out∧To F w w1 N' q {s with ps:=ps'}∧N'≤N∧(Idle s m∧out=[]∧ps'=s.ps∨ ¬Idle s m∧out=firedR s m∧ps'=firedL s m):=
 ⟨_,[],N,s.ps,rfl,Kd.R_nil _ _ _ _ _,hto,Nat.le_refl _,Or.inl ⟨h,rfl,rfl⟩⟩
theorem fire_end (m:Int) {w1 w2 w3 w4:World} {v3:Value} (hI:IsS F N w q s) (h1:To F w w1 N q s) (h2:Below w1.heap.size w1 w2) (h3:Below w2.heap.size w2 w3) (hR:Kd.R k39 39 w3 w2.heap.size (fun _=>True) v3 (firedR s m)) (h4:To (Fx F w w1) w3 w4 (loadOf s.kind s.a (Th.leftR m (sortP s.ps))).length q {s with ps:=firedL s m}) (hi: ¬Idle s m):
  ∃v out N' ps',Ending.returned v3=Ending.returned v∧Kd.R k39 39 w4 w.heap.size (fun _=>True) v out∧To F w w4 N' q {s with ps:=ps'}∧N'≤N∧(Idle s m∧out=[]∧ps'=s.ps∨ ¬Idle s m∧out=firedR s m∧ps'=firedL s m):=by
 have s1:=h1.fr.size;have s2:=h2.size;have s3:=h3.size;have s4:=h4.fr.size;refine⟨_,_,_,_,rfl,?_,h1.seq (To.below_ h2 (To.below_ h3 h4)),?_,Or.inr ⟨hi,rfl,rfl⟩⟩
 ·refine Kd.R_mono (Kd.R_lower (Kd.R_step (Kd.R_bound hR) (fun k hk hlt=>h4.fr.block k hlt (fun hf=> ?_))) (by omega)) (fun _ _=>trivial);have:=h1.is.bound k hf;have:=hk.2.1;omega
 ·exact Nat.le_trans (Nat.le_trans (loadOf_len _ _ _) (leftR_len _ _)) hI.len
set_option maxHeartbeats 4000000 in
theorem Fire_calls (h:IsS F N w q s) (m:Int):Calls Try.prog 19 #[.pointer (some ⟨q,0,none⟩),.int .i64 m] w fun e w'=> ∃v out N' ps',e= .returned v∧Kd.R k39 39 w' w.heap.size (fun _=>True) v out∧To F w w' N' q {s with ps:=ps'}∧N'≤N∧(Idle s m∧out=[]∧ps'=s.ps∨ ¬Idle s m∧out=firedR s m∧ps'=firedL s m):=by
  have HI:=Aside0.mk h;obtain⟨b1,b2,tv,tm,h⟩:=id HI.out;obtain⟨c0,c1,c2,c3,c4,c5,c6⟩:=h.cells;have HQ:=Aside0.mk (lt_of_block h.at_);clear h c1 c2 c3 c4 c5 c6;have hR0: ∀W:World,Kd.R k39 39 W w.heap.size (fun _=>True) (.slice none 0 0) []:=fun W=>Kd.R_nil _ _ _ _ _
  have HR0:=Aside0.mk hR0;clear hR0;by_cases hk0:s.kind=0
  · by_cases hm:m=9223372036854775807
    · rw [hk0] at c0
      have HNI:Aside0 (¬(s.kind=0∧m≠9223372036854775807)):=⟨fun h=>h.2 hm⟩
      have hm1:(m !=9223372036854775807)=false:=by simpa using hm
      clear hk0 hm;go_enter Try.func19,Try.ntmps19
      go_wp2_with (first
        | (go_at_call 29
           refine(Next_calls HI.out).mono ?_;rintro e w1 ⟨t,b,rfl,hn,hto⟩;have HTO:=Aside0.mk hto;clear hto;rcases next3 m hn with ⟨rfl,HN⟩|⟨rfl,HN,ht⟩|⟨rfl,HN,ht⟩
           all_goals clear hn)
        | (go_at_call 21
           refine(Panes_calls HTO.out.is).mono ?_;rintro e w2 ⟨v2,rfl,hR2,hb2⟩;obtain⟨A2,cc2,rfl⟩:=Kd.R_slice hR2;have HR2:=Aside0.mk hR2;have HB2:=Aside0.mk hb2;clear hR2 hb2)
        | (go_at_call 42
           have hfe:=Th.fire_ev m (sortP s.ps) (by rw[sortP_len];have h1:=HI.out.len;have h2:=HI.out.small;omega);rw[Th.sortP_same (Th.sortP_sorted s.ps)] at hfe;obtain⟨kf,hkf⟩:=hfe;refine(window_Fire.calls kf _ _ _ _ _ _ _ (Kd.R_reads' HR2.out).2.2 (Kd.R_reads' HR2.out).2.1 (hkf kf (Nat.le_refl _))).mono ?_;rintro e w3 ⟨v3,v4,rfl,hR3,hR4,hb3⟩;obtain⟨A4,cc4,rfl⟩:=Kd.R_slice hR4;have HR3:=Aside0.mk hR3;have HR4:=Aside0.mk hR4;have HB3:=Aside0.mk hb3;clear hR3 hR4 hb3 hkf)
        | (go_at_call 20
           have hI3:=(HTO.out.is.below HB2.out).below HB3.out;have hF4:=Kd.F_mono (Kd.R_F (Kd.R_bound HR4.out)) (fun k hk=>And.intro hk.2.1 hk.2.2.1);refine(Load_calls hI3 A4 cc4 _ _ hF4 (Kd.R_reads' HR4.out).2.1 (fun k hk=>⟨fun hf=>by have h1:=HTO.out.is.bound k hf;have h2:=HB2.out.size;omega,hk.2⟩) (fun p hp=>HI.out.p64 p (leftR_mem (m:=m) hp)) (Nat.le_trans (leftR_len m s.ps) (Nat.le_trans HI.out.len HI.out.small))).mono ?_;rintro e w4 ⟨rfl,hto⟩;have HL:=Aside0.mk hto;clear hI3 hF4 hto))
      · go_ret
        exact idle_end m HTO.out (Or.inr HN.out)
      · go_ret
        exact idle_end m HTO.out (Or.inr HN.out)
      · go_ret
        exact fire_end m HI.out HTO.out HB2.out HB3.out HR3.out HL.out (fun h=>by
          rcases h with h|h
          · exact HNI.out h
          · obtain⟨p,hp,hle⟩:=HN.out
            have:=h p hp;omega)
    · have hm1:(m !=9223372036854775807)=true:=by simpa using hm
      rw[hk0] at c0;have HK:=Aside0.mk (And.intro hk0 hm);clear hk0 hm;go_enter Try.func19,Try.ntmps19;go_wp2;go_ret;exact⟨_,[],N,s.ps,rfl,HR0.out _,⟨HI.out.mono (fun k hk=>Or.inl hk) (fun k hk=>by rcases hk with hk|hk;exact HI.out.bound k hk;exact hk.2) (Nat.le_refl _) HI.out.small,Fr.refl _ _⟩,Nat.le_refl _,Or.inl ⟨Or.inl HK.out,rfl,rfl⟩⟩
  · have hk1:(s.kind==0)=false:=by simpa using hk0
    have HNI:Aside0 (¬(s.kind=0∧m≠9223372036854775807)):=⟨fun h=>hk0 h.1⟩
    clear hk0;go_enter Try.func19,Try.ntmps19
    go_wp2_with (first
      | (go_at_call 29
         refine(Next_calls HI.out).mono ?_;rintro e w1 ⟨t,b,rfl,hn,hto⟩;have HTO:=Aside0.mk hto;clear hto;rcases next3 m hn with ⟨rfl,HN⟩|⟨rfl,HN,ht⟩|⟨rfl,HN,ht⟩
         all_goals clear hn)
      | (go_at_call 21
         refine(Panes_calls HTO.out.is).mono ?_;rintro e w2 ⟨v2,rfl,hR2,hb2⟩;obtain⟨A2,cc2,rfl⟩:=Kd.R_slice hR2;have HR2:=Aside0.mk hR2;have HB2:=Aside0.mk hb2;clear hR2 hb2)
      | (go_at_call 42
         have hfe:=Th.fire_ev m (sortP s.ps) (by rw[sortP_len];have h1:=HI.out.len;have h2:=HI.out.small;omega);rw[Th.sortP_same (Th.sortP_sorted s.ps)] at hfe;obtain⟨kf,hkf⟩:=hfe;refine(window_Fire.calls kf _ _ _ _ _ _ _ (Kd.R_reads' HR2.out).2.2 (Kd.R_reads' HR2.out).2.1 (hkf kf (Nat.le_refl _))).mono ?_;rintro e w3 ⟨v3,v4,rfl,hR3,hR4,hb3⟩;obtain⟨A4,cc4,rfl⟩:=Kd.R_slice hR4;have HR3:=Aside0.mk hR3;have HR4:=Aside0.mk hR4;have HB3:=Aside0.mk hb3;clear hR3 hR4 hb3 hkf)
      | (go_at_call 20
         have hI3:=(HTO.out.is.below HB2.out).below HB3.out;have hF4:=Kd.F_mono (Kd.R_F (Kd.R_bound HR4.out)) (fun k hk=>And.intro hk.2.1 hk.2.2.1);refine(Load_calls hI3 A4 cc4 _ _ hF4 (Kd.R_reads' HR4.out).2.1 (fun k hk=>⟨fun hf=>by have h1:=HTO.out.is.bound k hf;have h2:=HB2.out.size;omega,hk.2⟩) (fun p hp=>HI.out.p64 p (leftR_mem (m:=m) hp)) (Nat.le_trans (leftR_len m s.ps) (Nat.le_trans HI.out.len HI.out.small))).mono ?_;rintro e w4 ⟨rfl,hto⟩;have HL:=Aside0.mk hto;clear hI3 hF4 hto))
    · go_ret
      exact idle_end m HTO.out (Or.inr HN.out)
    · go_ret
      exact idle_end m HTO.out (Or.inr HN.out)
    · go_ret
      exact fire_end m HI.out HTO.out HB2.out HB3.out HR3.out HL.out (fun h=>by
        rcases h with h|h
        · exact HNI.out h
        · obtain⟨p,hp,hle⟩:=HN.out
          have:=h p hp;omega)
end Go.Proofs.Ytjegeghigfmkoaa.T
