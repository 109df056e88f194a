/- window.absorb: a pane takes in all that overlap it. Conditions: those typed: fewer than 2^42 panes. -/
import Derived.Test.YtjegeghigfmkoaaMStatePlays19
import Derived.Test.YtjegeghigfmkoaaMStatePlays8
import Derived.Test.YtjegeghigfmkoaaMStatePlays11
import Derived.Test.YtjegeghigfmkoaaMStatePlays18
import Derived.Deep.RegionWith
import Derived.Test.YtjegeghigfmkoaaMStatePlays4
import Derived.Test.YtjegeghigfmkoaaMStatePlays9
import Derived.Test.YtjegeghigfmkoaaMStatePlays12
namespace Go.Proofs.Ytjegeghigfmkoaa.X
open Go.Shelf Go.RowKit Go.Lib Go.Sort Go.Proofs Go.Proofs.YtjegeghigfmkoaaW.PrintWords Go.Proofs.Ytjegeghigfmkoaa.So Go.Proofs.Ytjegeghigfmkoaa
set_option maxRecDepth 100000
set_option linter.unusedVariables false
set_option linter.unusedSimpArgs false
def hitP (p x:S70):Bool:=x.f0==p.f0 && decide (mx x.f1.f0 p.f1.f0<mn x.f1.f1 p.f1.f1)
def joinP (a:Int) (p x:S70):S70:=⟨p.f0,⟨mn p.f1.f0 x.f1.f0,mx p.f1.f1 x.f1.f1⟩,aggMerge a p.f2 x.f2⟩
def absorbF (a:Int):Nat→S70→List S70→S70×List S70
 |0,p,l=>(p,l)
 |k+1,p,l=>match l.findIdx? (hitP p) with
  |none=>(p,l)
  |some i=>absorbF a k (joinP a p (l.getD i z70)) (l.eraseIdx i)
def absorbP (a:Int) (p:S70) (l:List S70):S70×List S70:=absorbF a (l.length+1) p l
def Held (w wr:World) (A0:Option Addr) (c0:Nat) (l0:List S70) (v:Value) (l:List S70):Prop:=
 (v= .slice A0 l0.length c0∧l=l0)∨Kd.R k70 70 wr w.heap.size (fun k=>w.heap.size+2≤k) v l
theorem held_below {w w1 w2:World} {A0:Option Addr} {c0:Nat} {l0 l:List S70} {v:Value} (h:Held w w1 A0 c0 l0 v l) (hb:Below w1.heap.size w1 w2):Held w w2 A0 c0 l0 v l:=by
 rcases h with h|h
 ·exact Or.inl h
 ·exact Or.inr (Kd.R_below h hb)
theorem held_set {w w1:World} {A0:Option Addr} {c0:Nat} {l0 l:List S70} {v:Value} (h:Held w w1 A0 c0 l0 v l) (g j:Nat) (hg:g<w.heap.size+2) (u:Value):Held w (w1.setCell ⟨g,j,none⟩ u) A0 c0 l0 v l:=by
 rcases h with h|h
 ·exact Or.inl h
 ·exact Or.inr (Kd.R_far h (fun k hk he=>by have h1:w.heap.size+2≤k:=hk;have h2:k=g:=he;omega) _)
theorem held_C {w w1:World} {A0 A:Option Addr} {c0 c:Nat} {l0 l:List S70} (hr0:Kd.C k70 w A0 l0.length l0) (hb:Below w.heap.size w w1) (h:Held w w1 A0 c0 l0 (.slice A l.length c) l):Kd.C k70 w1 A l.length l:=by
 rcases h with ⟨h1,rfl⟩|h
 ·injection h1 with e1 e2 e3
  subst e1;exact Kd.C_below hr0 hb
 ·obtain⟨h1,h2,h3⟩:=Kd.R_reads' h;exact h3
attribute [local go_sem] Go.Proofs.YtjegeghigfmkoaaW.PrintMore.max2_int Go.Proofs.YtjegeghigfmkoaaW.PrintMore.min2_int Go.Proofs.YtjegeghigfmkoaaW.PrintMore.max_two Go.Proofs.YtjegeghigfmkoaaW.PrintMore.min_two
set_option maxHeartbeats 4000000 in
theorem absorb46 (a:Int) (p:S70) (A0:Option Addr) (c0:Nat) (l0:List S70) (w:World) (hr0:Kd.C k70 w A0 l0.length l0) (hc0:l0.length≤c0) (hl:l0.length<4398046511104):
    Calls Try.prog 70 #[.int .i64 a,.agg #[.int .i64 p.f0,.int .i64 p.f1.f0,.int .i64 p.f1.f1,.int .i64 p.f2],.slice A0 l0.length c0] w fun e w'=>
      ∃v,e= .returned (.tuple #[.agg #[.int .i64 (absorbP a p l0).1.f0,.int .i64 (absorbP a p l0).1.f1.f0,.int .i64 (absorbP a p l0).1.f1.f1,.int .i64 (absorbP a p l0).1.f2],v])∧Held w w' A0 c0 l0 v (absorbP a p l0).2∧Below w.heap.size w w' :=by
  have hu46:=Try.underlying70;have hu35:=Try.underlying44;have hu31:=Try.underlying68;have HR0:=Aside0.mk hr0;clear hr0;go_enter Try.func70,Try.ntmps70;go_wp2;go_step3;go_wp2;go_step3;go_wp2
  go_loopg [2] (l0.length+1) (fun kx s2 wr=> ∃(q:S70) (l:List S70) (A:Option Addr) (c:Nat),s2= .slice A l.length c∧l.length≤c∧l.length<4398046511104∧l.length+1≤kx+1∧Aside0 (Held w wr A0 c0 l0 (.slice A l.length c) l)∧Aside0 (Kd.C k70 wr A l.length l)∧
    Aside0 (wr.heap[w.heap.size]? =some (.cells #[.int .i64 q.f0,.int .i64 q.f1.f0,.int .i64 q.f1.f1,.int .i64 q.f2] 70 (0,0)))∧Aside0 (wr.heap[w.heap.size+1]? =some (.cells #[.int .i64 0,.int .i64 0,.int .i64 0,.int .i64 0] 70 (0,0)))∧Aside0 (Below w.heap.size w wr)∧Aside0 (absorbF a (l.length+1) q l=absorbP a p l0))
  case atStart=>
    refine⟨p,l0,A0,c0,rfl,hc0,hl,by omega,⟨Or.inl ⟨rfl,rfl⟩⟩,⟨Kd.C_alloc (Kd.C_alloc HR0.out _) _⟩,⟨blk_alloc (blk_new w _) _⟩,⟨?_⟩,⟨below_alloc (below_alloc (Below.refl _ _) _) _⟩,⟨rfl⟩⟩;have h:=blk_new (w.alloc (.cells #[.int .i64 p.f0,.int .i64 p.f1.f0,.int .i64 p.f1.f1,.int .i64 p.f2] 70)) (.cells #[.int .i64 0,.int .i64 0,.int .i64 0,.int .i64 0] 70 (0,0));simpa using h
  case round =>
    obtain⟨q,l,A,c,rfl,hlc,hlm,hkx,HH,HC,BP,BR,HB,HE⟩:=hrel;go_wp2
    go_loopg [2,12] l.length (fun ky s2 s12 wr2=> ∃i:Nat,s2= .slice A l.length c∧s12= .int .i64 i∧i≤l.length∧l.length-i≤ky∧Aside0 (∀j (h:j<l.length),j<i→hitP q l[j]=false)∧Aside0 (Held w wr2 A0 c0 l0 (.slice A l.length c) l)∧Aside0 (Kd.C k70 wr2 A l.length l)∧
      Aside0 (wr2.heap[w.heap.size]? =some (.cells #[.int .i64 q.f0,.int .i64 q.f1.f0,.int .i64 q.f1.f1,.int .i64 q.f2] 70 (0,0)))∧Aside0 (wr2.heap[w.heap.size+1]? =some (.cells #[.int .i64 0,.int .i64 0,.int .i64 0,.int .i64 0] 70 (0,0)))∧Aside0 (Below w.heap.size w wr2))
    case atStart=>exact⟨0,rfl,rfl,Nat.zero_le _,Nat.le_refl _,⟨fun j _ h=>absurd h (by omega)⟩,HH,HC,BP,BR,HB⟩
    case round=>
      clear HH HC BP BR HB;obtain⟨i,rfl,rfl,hil,hky,HN,HH,HC,BP,BR,HB⟩:=hrel;by_cases hlt:i<l.length
      · have hltz :(i:Int)<(l.length:Int):=by omega
        obtain⟨ad,e,hx0,hx1,hx2,hx3⟩:=at_T70 HC.out (i:Int) (by omega) (by omega);cases e;obtain⟨x,HX⟩: ∃x,Aside0 (x=l[i]):=⟨_,⟨rfl⟩⟩
        have er:rd_T70 l (i:Int)=x:=by rw[HX.out];simp[rd_T70,hlt]
        rw[er] at hx0 hx1 hx2 hx3;simp only[Int.toNat_natCast] at hx0 hx1 hx2 hx3;clear er;have hsz1:w.heap.size<wr.heap.size:=blk_lt BP.out;have hsz2:w.heap.size+1<wr.heap.size:=blk_lt BR.out;have hp0:wr.cell? ⟨w.heap.size,0,none⟩=some (.int .i64 q.f0):=(blk_cell BP.out 0).trans rfl;have hp1:wr.cell? ⟨w.heap.size,1,none⟩=some (.int .i64 q.f1.f0):=(blk_cell BP.out 1).trans rfl;have hp2:wr.cell? ⟨w.heap.size,2,none⟩=some (.int .i64 q.f1.f1):=(blk_cell BP.out 2).trans rfl;have hp3:wr.cell? ⟨w.heap.size,3,none⟩=some (.int .i64 q.f2):=(blk_cell BP.out 3).trans rfl;have hxb:=World.block_lt_of_cell? _ _ hx0;by_cases hk:x.f0=q.f0
        · have hkb:(x.f0==q.f0)=true:=beq_iff_eq.2 hk
          have HK:Aside0 (x.f0=q.f0):=Aside0.mk hk;clear hk;have hov:=fun w'=>window_overlap.calls x.f1.f0 x.f1.f1 q.f1.f0 q.f1.f1 _ w' rfl
          cases hv:decide (mx x.f1.f0 q.f1.f0<mn x.f1.f1 q.f1.f1) with
          | false =>
            rw[hv] at hov;go_wp2_with (go_at_call 81;refine(hov _).mono ?_;rintro e w3 ⟨rfl,hb3⟩);have HB3:=Aside0.mk hb3;clear hb3;go_roundg (l.length- (i+1))
            case measure=>omega
            case rel=>
              refine⟨i+1,rfl,by first|rfl|go_num|(congr 1;omega),by omega,Nat.le_refl _,⟨fun j h hj=> ?_⟩,⟨?_⟩,⟨Kd.C_below (Kd.C_alloc HC.out _) HB3.out⟩,⟨blk_below (blk_alloc BP.out _) HB3.out⟩,⟨blk_below (blk_alloc BR.out _) HB3.out⟩,⟨below_step (below_alloc HB.out _) HB3.out⟩⟩
              · rcases Nat.lt_or_ge j i with h1|h1
                · exact HN.out j h h1
                · obtain rfl:j=i:=by omega
                  rw[←HX.out];unfold hitP;rw[hkb,hv];rfl
              · rcases HH.out with h|h
                · exact Or.inl h
                · exact Or.inr (Kd.R_below (Kd.R_alloc h _) HB3.out)
          | true=>
            rw[hv] at hov;have HV:=Aside0.mk hv;clear hv;have hkb2:=Aside0.mk hkb;clear hkb;obtain⟨jm,hjm⟩: ∃j,mn q.f1.f0 x.f1.f0=j:=⟨_,rfl⟩
            obtain⟨jx,hjx⟩: ∃j,mx q.f1.f1 x.f1.f1=j:=⟨_,rfl⟩
            have hjm_:(if x.f1.f0<q.f1.f0 then x.f1.f0 else q.f1.f0)=jm:=hjm;have hjx_:(if q.f1.f1<x.f1.f1 then x.f1.f1 else q.f1.f1)=jx:=hjx;have HJ:Aside0 (mn q.f1.f0 x.f1.f0=jm∧mx q.f1.f1 x.f1.f1=jx):=⟨hjm,hjx⟩
            clear hjm hjx;obtain⟨am,HAM⟩: ∃j,Aside0 (aggMerge a q.f2 x.f2=j):=⟨_,⟨rfl⟩⟩
            have hmg:=fun w'=>agg_Merge.calls a q.f2 x.f2 am w' (by rw[←HAM.out];rfl)
            have hkb:=hkb2.out
            go_wp2_with (first
             | (go_at_call 81
                refine(hov _).mono ?_;rintro e w3 ⟨rfl,hb3⟩;have HB3:=Aside0.mk hb3;clear hb3;have BX3:Aside0 (w3.heap[wr.heap.size]? =some (.cells #[.int .i64 x.f0,.int .i64 x.f1.f0,.int .i64 x.f1.f1,.int .i64 x.f2] 70 (0,0))):=⟨blk_below (blk_new wr _) HB3.out⟩
                have BP3:Aside0 (w3.heap[w.heap.size]? =some (.cells #[.int .i64 q.f0,.int .i64 q.f1.f0,.int .i64 q.f1.f1,.int .i64 q.f2] 70 (0,0))):=⟨blk_below (blk_alloc BP.out _) HB3.out⟩
                have BR3:Aside0 (w3.heap[w.heap.size+1]? =some (.cells #[.int .i64 0,.int .i64 0,.int .i64 0,.int .i64 0] 70 (0,0))):=⟨blk_below (blk_alloc BR.out _) HB3.out⟩
                have HH3:Aside0 (Held w w3 A0 c0 l0 (.slice (some ad) l.length c) l):=⟨held_below (held_below HH.out (below_alloc (Below.refl _ _) _)) HB3.out⟩
                have HW3:Aside0 (Below w.heap.size w w3):=⟨below_step (below_alloc HB.out _) HB3.out⟩
                clear hp0 hp1 hp2 hp3 hx0 hx1 hx2 hx3 HB3;have hp0:w3.cell? ⟨w.heap.size,0,none⟩=some (.int .i64 q.f0):=(blk_cell BP3.out 0).trans rfl;have hp1:w3.cell? ⟨w.heap.size,1,none⟩=some (.int .i64 q.f1.f0):=(blk_cell BP3.out 1).trans rfl;have hp2:w3.cell? ⟨w.heap.size,2,none⟩=some (.int .i64 q.f1.f1):=(blk_cell BP3.out 2).trans rfl;have hp3:w3.cell? ⟨w.heap.size,3,none⟩=some (.int .i64 q.f2):=(blk_cell BP3.out 3).trans rfl;have hx1:w3.cell? ⟨wr.heap.size,1,none⟩=some (.int .i64 x.f1.f0):=(blk_cell BX3.out 1).trans rfl;have hx2:w3.cell? ⟨wr.heap.size,2,none⟩=some (.int .i64 x.f1.f1):=(blk_cell BX3.out 2).trans rfl;have hx3:w3.cell? ⟨wr.heap.size,3,none⟩=some (.int .i64 x.f2):=(blk_cell BX3.out 3).trans rfl;have hpf1:=blk_frozen BP3.out 1;have hpf2:=blk_frozen BP3.out 2)
             | (go_at_call 44
                refine(hmg _).mono ?_;rintro e w5 ⟨rfl,hb5⟩
                have BP4:Aside0 (((w3.setCell ⟨w.heap.size,1,none⟩ (.int .i64 jm)).setCell ⟨w.heap.size,2,none⟩ (.int .i64 jx)).heap[w.heap.size]? =some (.cells #[.int .i64 q.f0,.int .i64 jm,.int .i64 jx,.int .i64 q.f2] 70 (0,0))):=by
                  have hb:=BP3.out;exact Aside0.mk (by simp[World.setCell,Array.getElem?_modify,hb])
                have BR4:Aside0 (((w3.setCell ⟨w.heap.size,1,none⟩ (.int .i64 jm)).setCell ⟨w.heap.size,2,none⟩ (.int .i64 jx)).heap[w.heap.size+1]? =some (.cells #[.int .i64 0,.int .i64 0,.int .i64 0,.int .i64 0] 70 (0,0))):=by
                  have hb:=BR3.out;exact Aside0.mk (by simp[World.setCell,Array.getElem?_modify,hb])
                have BP5:Aside0 (w5.heap[w.heap.size]? =some (.cells #[.int .i64 q.f0,.int .i64 jm,.int .i64 jx,.int .i64 q.f2] 70 (0,0))):=⟨blk_below BP4.out hb5⟩
                have BR5:Aside0 (w5.heap[w.heap.size+1]? =some (.cells #[.int .i64 0,.int .i64 0,.int .i64 0,.int .i64 0] 70 (0,0))):=⟨blk_below BR4.out hb5⟩
                have BX5:Aside0 (w5.heap[wr.heap.size]? =some (.cells #[.int .i64 x.f0,.int .i64 x.f1.f0,.int .i64 x.f1.f1,.int .i64 x.f2] 70 (0,0))):=by
                  have hb:=BX3.out;have hne1:w.heap.size≠wr.heap.size:=by omega
                  exact Aside0.mk (blk_below (by simp[World.setCell,Array.getElem?_modify,hb,hne1]) hb5)
                have HH5:Aside0 (Held w w5 A0 c0 l0 (.slice (some ad) l.length c) l):=⟨held_below (held_set (held_set HH3.out _ _ (by omega) _) _ _ (by omega) _) hb5⟩
                have HW5:Aside0 (Below w.heap.size w w5):=⟨below_step (below_set (below_set HW3.out (Nat.le_refl _)) (Nat.le_refl _)) hb5⟩
                have HH6:Aside0 (Held w (w5.setCell ⟨w.heap.size,3,none⟩ (.int .i64 am)) A0 c0 l0 (.slice (some ad) l.length c) l):=⟨held_set HH5.out _ _ (by omega) _⟩
                have HW6:Aside0 (Below w.heap.size w (w5.setCell ⟨w.heap.size,3,none⟩ (.int .i64 am))):=⟨below_set HW5.out (Nat.le_refl _)⟩
                have BP6:Aside0 ((w5.setCell ⟨w.heap.size,3,none⟩ (.int .i64 am)).heap[w.heap.size]? =some (.cells #[.int .i64 q.f0,.int .i64 jm,.int .i64 jx,.int .i64 am] 70 (0,0))):=by
                  have hb:=BP5.out;exact Aside0.mk (by simp[World.setCell,Array.getElem?_modify,hb])
                have BR6:Aside0 ((w5.setCell ⟨w.heap.size,3,none⟩ (.int .i64 am)).heap[w.heap.size+1]? =some (.cells #[.int .i64 0,.int .i64 0,.int .i64 0,.int .i64 0] 70 (0,0))):=by
                  have hb:=BR5.out;exact Aside0.mk (by simp[World.setCell,Array.getElem?_modify,hb])
                have hcl:=clone46 (some ad) c l (w5.setCell ⟨w.heap.size,3,none⟩ (.int .i64 am)) (held_C HR0.out HW6.out HH6.out) hlc hlm;have hs6:Aside0 ((w5.setCell ⟨w.heap.size,3,none⟩ (.int .i64 am)).heap.size=w5.heap.size∧w.heap.size+1<w5.heap.size):=⟨by simp[World.setCell],blk_lt BR5.out⟩
                clear hb5 hp0 hp1 hp2 hp3 hx1 hx2 hx3 hpf1 hpf2;have hp1:w5.cell? ⟨w.heap.size,1,none⟩=some (.int .i64 jm):=(blk_cell BP5.out 1).trans rfl;have hp3:w5.cell? ⟨w.heap.size,3,none⟩=some (.int .i64 q.f2):=(blk_cell BP5.out 3).trans rfl;have hpf3:=blk_frozen BP5.out 3)
             | (go_at_call 69
                refine hcl.mono ?_;rintro e w7 ⟨v,rfl,hR7,hB7⟩;obtain⟨g,cap,rfl,hgb,hgl,cells,hcells⟩:=Kd.R_form hR7 (by omega);have hdel:=delete46 i hR7 hlt hlm;have HR7:=Aside0.mk hR7;have HB7:=Aside0.mk hB7;have HG7:=Aside0.mk hgb;clear hR7 hB7 hgb hcells hcl)
             | (go_at_call 82
                refine hdel.mono ?_;rintro e w8 ⟨rfl,hR8,hB8⟩;have HR8:=Aside0.mk hR8;have HB8:=Aside0.mk hB8;clear hR8 hB8))
            go_roundg (l.length-1)
            case measure=>omega
            case rel=>
              have hlen:(l.eraseIdx i).length=l.length-1:=List.length_eraseIdx_of_lt hlt;have hs1:=hs6.out.1;have hs2:=hs6.out.2;have hg7:=HG7.out;have hB7:=HB7.out;have hB8:=HB8.out;have hR8:=HR8.out;rw[hs1] at hg7 hB7 hR8
              have hcap:l.length-1≤cap:=by
                have h:=Kd.R_reads' hR8;exact h.2.1
              have hW7:Below w.heap.size w w7:=(HW6.out).trans (hB7.mono (by omega));have hW8:Below w.heap.size w w8:=hW7.trans (hB8.mono (by omega))
              have hHeld:Held w w8 A0 c0 l0 (.slice (some ⟨g,0,none⟩) (l.eraseIdx i).length cap) (l.eraseIdx i):=by
                rw[hlen];refine Or.inr ?_;exact Kd.R_mono (Kd.R_lower (base' :=w.heap.size) (Kd.R_bound hR8) (by omega)) (fun k hk=>by have h1:=hk.2.1;omega)
              refine⟨joinP a q x,l.eraseIdx i,some ⟨g,0,none⟩,cap,by rw[hlen],by omega,by omega,by omega,⟨hHeld⟩,⟨held_C HR0.out hW8 hHeld⟩,⟨?_⟩,⟨?_⟩,⟨hW8⟩,⟨?_⟩⟩
              · have h1:=hB8.block w.heap.size (by omega)
                have h2:=hB7.block w.heap.size (by omega);rw[h1,h2,BP6.out];show _=some (Obj.cells #[.int .i64 q.f0,.int .i64 (mn q.f1.f0 x.f1.f0),.int .i64 (mx q.f1.f1 x.f1.f1),.int .i64 (aggMerge a q.f2 x.f2)] 70 (0,0));rw[HJ.out.1,HJ.out.2,HAM.out]
              · have h1:=hB8.block (w.heap.size+1) (by omega)
                have h2:=hB7.block (w.heap.size+1) (by omega);rw[h1,h2,BR6.out]
              · rw[←HE.out,hlen,show l.length-1+1=l.length by omega,absorbF]
                have hf:l.findIdx? (hitP q)=some i:=by
                  rw[List.findIdx?_eq_some_iff_getElem];refine⟨hlt,?_,fun j hj=> ?_⟩
                  · rw[←HX.out];unfold hitP;rw[hkb2.out,HV.out];rfl
                  · rw[HN.out j (by omega) hj];simp
                rw[hf];have hx:l.getD i z70=x:=by rw[HX.out];simp[hlt]
                show absorbF a l.length (joinP a q x) (l.eraseIdx i)=absorbF a l.length (joinP a q (l.getD i z70)) (l.eraseIdx i);rw[hx]
        · have hkb:(x.f0==q.f0)=false:=beq_eq_false_iff_ne.2 hk
          go_wp2;go_roundg (l.length- (i+1))
          case measure=>omega
          case rel=>
            refine⟨i+1,rfl,by first|rfl|go_num|(congr 1;omega),by omega,Nat.le_refl _,⟨fun j h hj=> ?_⟩,⟨?_⟩,⟨Kd.C_alloc HC.out _⟩,⟨blk_alloc BP.out _⟩,⟨blk_alloc BR.out _⟩,⟨below_alloc HB.out _⟩⟩
            · rcases Nat.lt_or_ge j i with h1|h1
              · exact HN.out j h h1
              · obtain rfl:j=i:=by omega
                rw[←HX.out];unfold hitP;rw[hkb];rfl
            · rcases HH.out with h|h
              · exact Or.inl h
              · exact Or.inr (Kd.R_alloc h _)
      · have hltz: ¬(i:Int)<(l.length:Int):=by omega
        have hp0:wr.cell? ⟨w.heap.size,0,none⟩=some (.int .i64 q.f0):=(blk_cell BP.out 0).trans rfl;have hp1:wr.cell? ⟨w.heap.size,1,none⟩=some (.int .i64 q.f1.f0):=(blk_cell BP.out 1).trans rfl;have hp2:wr.cell? ⟨w.heap.size,2,none⟩=some (.int .i64 q.f1.f1):=(blk_cell BP.out 2).trans rfl;have hp3:wr.cell? ⟨w.heap.size,3,none⟩=some (.int .i64 q.f2):=(blk_cell BP.out 3).trans rfl;have hq0:wr.cell? ⟨w.heap.size+1,0,none⟩=some (.int .i64 0):=(blk_cell BR.out 0).trans rfl;have hf0:=blk_frozen BR.out 0;have hq1:wr.cell? ⟨w.heap.size+1,1,none⟩=some (.int .i64 0):=(blk_cell BR.out 1).trans rfl;have hf1:=blk_frozen BR.out 1;have hq2:wr.cell? ⟨w.heap.size+1,2,none⟩=some (.int .i64 0):=(blk_cell BR.out 2).trans rfl;have hf2:=blk_frozen BR.out 2;have hq3:wr.cell? ⟨w.heap.size+1,3,none⟩=some (.int .i64 0):=(blk_cell BR.out 3).trans rfl;have hf3:=blk_frozen BR.out 3
        have e:absorbP a p l0=(q,l):=by
          rw[←HE.out,absorbF]
          have hn:l.findIdx? (hitP q)=none:=by
            rw[List.findIdx?_eq_none_iff];intro x hx;obtain⟨j,hj,rfl⟩:=List.getElem_of_mem hx;exact HN.out j hj (by omega)
          rw[hn]
        have E:=Aside0.mk e;clear e
        have hB4:Aside0 (((((wr.setCell ⟨w.heap.size+1,0,none⟩ (.int .i64 q.f0)).setCell ⟨w.heap.size+1,1,none⟩ (.int .i64 q.f1.f0)).setCell ⟨w.heap.size+1,2,none⟩ (.int .i64 q.f1.f1)).setCell ⟨w.heap.size+1,3,none⟩ (.int .i64 q.f2)).heap[w.heap.size+1]? =some (.cells #[.int .i64 q.f0,.int .i64 q.f1.f0,.int .i64 q.f1.f1,.int .i64 q.f2] 70 (0,0))):=by
          have hb:=BR.out;exact Aside0.mk (by simp[World.setCell,Array.getElem?_modify,hb])
        go_wp2
        have hX4:Aside0 (Held w ((((wr.setCell ⟨w.heap.size+1,0,none⟩ (.int .i64 q.f0)).setCell ⟨w.heap.size+1,1,none⟩ (.int .i64 q.f1.f0)).setCell ⟨w.heap.size+1,2,none⟩ (.int .i64 q.f1.f1)).setCell ⟨w.heap.size+1,3,none⟩ (.int .i64 q.f2)) A0 c0 l0 (.slice A l.length c) l∧Below w.heap.size w ((((wr.setCell ⟨w.heap.size+1,0,none⟩ (.int .i64 q.f0)).setCell ⟨w.heap.size+1,1,none⟩ (.int .i64 q.f1.f0)).setCell ⟨w.heap.size+1,2,none⟩ (.int .i64 q.f1.f1)).setCell ⟨w.heap.size+1,3,none⟩ (.int .i64 q.f2))):=by
          refine Aside0.mk ⟨?_,below_set (below_set (below_set (below_set HB.out (by omega)) (by omega)) (by omega)) (by omega)⟩;rcases HH.out with h|h
          · exact Or.inl h
          · exact Or.inr (Kd.R_far (Kd.R_far (Kd.R_far (Kd.R_far h (fun k hk he=>by have h1:w.heap.size+2≤k:=hk;have h2:k=w.heap.size+1:=he;omega) _) (fun k hk he=>by have h1:w.heap.size+2≤k:=hk;have h2:k=w.heap.size+1:=he;omega) _) (fun k hk he=>by have h1:w.heap.size+2≤k:=hk;have h2:k=w.heap.size+1:=he;omega) _) (fun k hk he=>by have h1:w.heap.size+2≤k:=hk;have h2:k=w.heap.size+1:=he;omega) _)
        generalize ((((wr.setCell ⟨w.heap.size+1,0,none⟩ (.int .i64 q.f0)).setCell ⟨w.heap.size+1,1,none⟩ (.int .i64 q.f1.f0)).setCell ⟨w.heap.size+1,2,none⟩ (.int .i64 q.f1.f1)).setCell ⟨w.heap.size+1,3,none⟩ (.int .i64 q.f2))=w4 at hB4 hX4 ⊢;have hc0:w4.cell? ⟨w.heap.size+1,0,none⟩=some (.int .i64 q.f0):=(blk_cell hB4.out 0).trans rfl;have hc1:w4.cell? ⟨w.heap.size+1,1,none⟩=some (.int .i64 q.f1.f0):=(blk_cell hB4.out 1).trans rfl;have hc2:w4.cell? ⟨w.heap.size+1,2,none⟩=some (.int .i64 q.f1.f1):=(blk_cell hB4.out 2).trans rfl;have hc3:w4.cell? ⟨w.heap.size+1,3,none⟩=some (.int .i64 q.f2):=(blk_cell hB4.out 3).trans rfl;refine bodyPost_ret (v:= .tuple #[.agg #[.int .i64 q.f0,.int .i64 q.f1.f0,.int .i64 q.f1.f1,.int .i64 q.f2],.slice A l.length c]) (by simp[results,Try.results70,go_sem,hc0,hc1,hc2,hc3]) rfl ?_;rw[E.out];exact⟨_,rfl,hX4.out.1,hX4.out.2⟩
end Go.Proofs.Ytjegeghigfmkoaa.X
namespace Go.Proofs.Ytjegeghigfmkoaa.X
open Go.Shelf Go.RowKit Go.Lib Go.Sort Go.Proofs Go.Proofs.YtjegeghigfmkoaaW.PrintWords Go.Proofs.YtjegeghigfmkoaaW.PrintLast Go.Proofs.YtjegeghigfmkoaaW.PrintMore Go.Proofs.Ytjegeghigfmkoaa.So Go.Proofs.Ytjegeghigfmkoaa
set_option maxRecDepth 100000
set_option linter.unusedVariables false
set_option linter.unusedSimpArgs false
def sameP (p x:S70):Bool:=x.f0==p.f0 && (x.f1.f0==p.f1.f0 && x.f1.f1==p.f1.f1)
def stepP (kind a key val:Int) (out:List S70) (s:S68):List S70:=
 if kind=3 then
  (absorbP a ⟨key,s,aggZero a⟩ out).2++[⟨(absorbP a ⟨key,s,aggZero a⟩ out).1.f0,(absorbP a ⟨key,s,aggZero a⟩ out).1.f1,aggAdd a (absorbP a ⟨key,s,aggZero a⟩ out).1.f2 val⟩]
 else match out.findIdx? (sameP ⟨key,s,aggZero a⟩) with
  |none=>out++[⟨key,s,aggAdd a (aggZero a) val⟩]
  |some i=>out.set i ⟨(out.getD i z70).f0,(out.getD i z70).f1,aggAdd a (out.getD i z70).f2 val⟩
theorem absorbF_len (a:Int): ∀(k:Nat) (p:S70) (l:List S70),(absorbF a k p l).2.length≤l.length
 |0,p,l=>Nat.le_refl _
 | k+1,p,l=>by
  rw[absorbF];cases h:l.findIdx? (hitP p) with
  |none=>exact Nat.le_refl _
  |some i=>
   have h1:=absorbF_len a k (joinP a p (l.getD i z70)) (l.eraseIdx i);have h2:=List.length_eraseIdx_le l i;exact Nat.le_trans h1 h2
end Go.Proofs.Ytjegeghigfmkoaa.X
namespace Go.Proofs.Ytjegeghigfmkoaa.X
open Go.Shelf Go.RowKit Go.Lib Go.Sort Go.Proofs Go.Proofs.YtjegeghigfmkoaaW.PrintWords Go.Proofs.YtjegeghigfmkoaaW.PrintLast Go.Proofs.YtjegeghigfmkoaaW.PrintMore Go.Proofs.Ytjegeghigfmkoaa.So Go.Proofs.Ytjegeghigfmkoaa
set_option maxRecDepth 100000
set_option linter.unusedVariables false
set_option linter.unusedSimpArgs false
def joinF (a:Int):Nat→List S70→List S70→List S70
 |0,_,out=>out
 |_+1,[],out=>out
 |k+1,p::rest,out=>joinF a k (absorbP a p rest).2 (out++[(absorbP a p rest).1])
def window_Join.f (a0:Int) (l1:List S70):Option (List S70):=if l1.length<4398046511104 then some (sortP (joinF a0 l1.length l1 [])) else none
theorem absorbP_len (a:Int) (p:S70) (l:List S70):(absorbP a p l).2.length≤l.length:=absorbF_len a (l.length+1) p l
theorem joinF_nil (a:Int) (k:Nat) (out:List S70):joinF a k [] out=out:=by cases k<;>rfl
theorem add0 (ad:Addr):ad.add 0=ad:=by
 unfold Addr.add;split<;>simp_all
theorem cut46 (p:S70) (ad:Addr) (c:Nat) (rs:List S70) (hc:(p::rs).length≤c) (W:World) (ok:Nat→Prop) (h:Kd.F k70 W ok (some ad) (p::rs).length (p::rs)):
  Kd.F k70 W ok (if c=1 then some ad else some {block:=ad.block,off:=ad.off+4}) rs.length rs:=by
 have h1:=Kd.F_cut (m:=1) h (by simp) hc
 have e:(if c=1 then some ad else(some ad).map (·.add (1*k70.sz)))=(if c=1 then some ad else some {block:=ad.block,off:=ad.off+4}):=by
  have e2:ad.add (1*k70.sz)={block:=ad.block,off:=ad.off+4}:=by
   show ad.add 4=_;go_simp
  rw[Option.map_some,e2]
 rw[e] at h1;exact h1
def window_Join.T5:Bool×List (List Nat×List Nat):=(true,[([],[]),([],[]),([],[]),([2],[2]),([0,1,3],[0,1,3]),([4],[4]),([5],[5]),([5],[5]),([6,4,0,1,2,3,4,5,6],[6]),([7,8,0,1,2,3,4,5,6,7,8],[2,7])])
def window_Join.B5:List Nat:=[0,0,0,4,15,31,63,63,127,511]
theorem window_Join.tab5:rtab .any (opsOf Try.f43 5)=window_Join.T5:=by kernel_rfl
theorem window_Join.bits5:waitsOk window_Join.T5.2 window_Join.B5=true:=by kernel_rfl
set_option maxHeartbeats 8000000 in
set_option maxRecDepth 100000 in
theorem window_Join.calls (a0:Int) (A1:Option Addr) (c1:Nat) (l1:List S70) (r:List S70) (w:World) (hr1:Kd.C k70 w A1 l1.length l1) (hc1:l1.length≤c1) (h:window_Join.f a0 l1=some r):
    Calls Try.prog 43 #[.int .i64 a0,.slice A1 l1.length c1] w fun e w'=> ∃v0_:Value,e= .returned (v0_)∧Kd.R k70 70 w' w.heap.size (fun _=>True) v0_ r∧Below w.heap.size w w' :=by
  have hu46:=Try.underlying70;have hu35:=Try.underlying44;have hu31:=Try.underlying68
  have hlen:l1.length<4398046511104:=by
    rw[window_Join.f] at h;by_cases c:l1.length<4398046511104
    · exact c
    · rw[if_neg c] at h;cases h
  rw[window_Join.f,if_pos hlen] at h;obtain rfl:=Option.some.inj h;clear h;have hcl:=clone46 A1 c1 l1 w hr1 hc1 hlen;clear hr1;go_enter Try.func43,Try.ntmps43
  go_wp2_with (
       go_at_call 69;refine hcl.mono ?_;rintro e w1 ⟨v1,rfl,hR1,hB1⟩;obtain⟨Ar0,cr0,rfl⟩:=Kd.R_slice hR1;have HF1:Aside0 (Kd.F k70 w1 (fun k=>w.heap.size≤k∧k<w1.heap.size) Ar0 l1.length l1):=⟨Kd.F_mono (Kd.R_F (Kd.R_bound hR1)) (fun k hk=>⟨hk.2.1,hk.2.2.1⟩)⟩
       have HC1:Aside0 (l1.length≤cr0):=⟨(Kd.R_reads' hR1).2.1⟩
       have HB1:=Aside0.mk hB1;clear hR1 hB1 hcl)
  go_loopg [5,6] l1.length (fun kx s5 s6 wr=> ∃(out rest:List S70) (Ar:Option Addr) (cr:Nat) (S:Nat→Prop),s6= .slice Ar rest.length cr∧rest.length≤cr∧rest.length≤kx∧out.length+rest.length≤l1.length∧Aside0 (joinF a0 kx rest out=joinF a0 l1.length l1 [])∧
    Aside0 (Kd.R k70 70 wr w.heap.size (fun k=> ¬S k) s5 out)∧Aside0 (Kd.F k70 wr S Ar rest.length rest)∧Aside0 (∀k,S k→k<wr.heap.size)∧Aside0 (Below w.heap.size w wr))
  case atStart=>exact⟨[],l1,Ar0,cr0,_,rfl,HC1.out,Nat.le_refl _,by simp,⟨rfl⟩,⟨Kd.R_nil _ _ _ _ _⟩,HF1,⟨fun k hk=>hk.2⟩,HB1⟩
  case round=>
    obtain⟨out,rest,Ar,cr,S,rfl,hrc,hky,hol,HE,HO,HF,HS,HB⟩:=hrel;clear HF1 HC1 HB1;cases rest with
    | nil=>
      have hll:out.length<4398046511104:=by have h:=hol;simp only[List.length_nil] at h;omega
      obtain⟨Ao,co,rfl⟩:=Kd.R_slice HO.out;have hso2:=window_Sort.calls Ao co out (sortP out) wr (Kd.R_reads' HO.out).2.2 (Kd.R_reads' HO.out).2.1 (by rw[window_Sort.f,if_pos hll]);have hlz: ¬((([]:List S70).length:Nat):Int)>0:=by simp
      go_wp2_with (go_at_call 47;refine hso2.mono ?_;rintro e w9 ⟨v9,rfl,hR9,hB9⟩);go_ret;have hsz:=HB.out.size;refine⟨_,rfl,?_,below_step HB.out hB9⟩;rw[←HE.out,joinF_nil];exact Kd.R_lower hR9 hsz
    | cons p rs=>
      have hlb:(1:Int)≤(rs.length:Int)+1:=by omega
      have hlz:(0:Int)<(((p::rs).length:Nat):Int):=by simp
      have hl1:(1:Int)≤(((p::rs).length:Nat):Int):=by simp;omega
      obtain⟨ad,e,hx0,hx1,hx2,hx3⟩:=at_T70 (Kd.F_now HF.out) (0:Int) (by omega) (by omega);cases e;obtain⟨A',hA'⟩: ∃A',(if cr=1 then some ad else some {block:=ad.block,off:=ad.off+4})=A' :=⟨_,rfl⟩
      have hF' : ∀(W:World) (ok:Nat→Prop),Kd.F k70 W ok (some ad) (p::rs).length (p::rs)→Kd.F k70 W ok A' rs.length rs:=fun W ok h=>by rw[←hA'];exact cut46 p ad cr rs hrc W ok h
      have er:rd_T70 (p::rs) (0:Int)=p:=rfl;rw[er] at hx0 hx1 hx2 hx3;simp only[Int.toNat_zero,Nat.zero_mul,add0] at hx0 hx1 hx2 hx3;clear er;go_wp2_with fail;have BPa:Aside0 ((wr.alloc (.cells #[.int .i64 p.f0,.int .i64 p.f1.f0,.int .i64 p.f1.f1,.int .i64 p.f2] 70 (0,0))).heap[wr.heap.size]? =some (.cells #[.int .i64 p.f0,.int .i64 p.f1.f0,.int .i64 p.f1.f1,.int .i64 p.f2] 70 (0,0))):=⟨blk_new wr _⟩
      have HFa:Aside0 (Kd.F k70 (wr.alloc (.cells #[.int .i64 p.f0,.int .i64 p.f1.f0,.int .i64 p.f1.f1,.int .i64 p.f2] 70 (0,0))) S (some ad) (p::rs).length (p::rs)):=⟨Kd.F_alloc HF.out _⟩
      have HOa:Aside0 (Kd.R k70 70 (wr.alloc (.cells #[.int .i64 p.f0,.int .i64 p.f1.f0,.int .i64 p.f1.f1,.int .i64 p.f2] 70 (0,0))) w.heap.size (fun k=> ¬S k∧k≠wr.heap.size) u5 out):=⟨Kd.R_mono (Kd.R_alloc (Kd.R_bound HO.out) _) (fun k hk=>⟨hk.1,by have:=hk.2.2.1;omega⟩)⟩
      have HBa:Aside0 (Below w.heap.size w (wr.alloc (.cells #[.int .i64 p.f0,.int .i64 p.f1.f0,.int .i64 p.f1.f1,.int .i64 p.f2] 70 (0,0)))):=⟨below_alloc HB.out _⟩
      have HSa:Aside0 ((wr.alloc (.cells #[.int .i64 p.f0,.int .i64 p.f1.f0,.int .i64 p.f1.f1,.int .i64 p.f2] 70 (0,0))).heap.size=wr.heap.size+1∧w.heap.size≤wr.heap.size∧(∀k,S k→k<wr.heap.size)):=⟨by simp,HB.out.size,HS.out⟩
      have hll:rs.length<4398046511104∧out.length+1+rs.length≤l1.length:=by have h:=hol;simp only[List.length_cons] at h;omega
      have hrc1:rs.length≤cr-1:=by have h:=hrc;simp only[List.length_cons] at h;omega
      obtain⟨pl,HPL⟩: ∃pl,Aside0 (absorbP a0 p rs=pl):=⟨_,⟨rfl⟩⟩
      have hab:=fun w' h'=>absorb46 a0 p A' (cr-1) rs w' h' hrc1 hll.1
      rw[HPL.out] at hab;have HLL:Aside0 (pl.2.length≤rs.length):=⟨by rw[←HPL.out];exact absorbP_len a0 p rs⟩
      obtain⟨q,l'⟩:=pl;clear HF HO HB HS hx0 hx1 hx2 hx3;refine start_ (n:=10) (S:=fun w'=>w'.cell? ⟨wr.heap.size,0,none⟩=some (.int .i64 p.f0)∧w'.cell? ⟨wr.heap.size,1,none⟩=some (.int .i64 p.f1.f0)∧w'.cell? ⟨wr.heap.size,2,none⟩=some (.int .i64 p.f1.f1)∧w'.cell? ⟨wr.heap.size,3,none⟩=some (.int .i64 p.f2)) (ds:=[8]) #[false,false,false,false,false,false,false,false,false,false] (by kernel_rfl) rfl rfl ⟨(blk_cell BPa.out 0).trans rfl,(blk_cell BPa.out 1).trans rfl,(blk_cell BPa.out 2).trans rfl,(blk_cell BPa.out 3).trans rfl⟩ (fun hHeld=> ?_);refine with_tabW window_Join.tab5 window_Join.bits5 (fun HT_ HW_=> ?_);have BPd:=Aside0.mk (blk_drew BPa.out);have HFd:=Aside0.mk (Kd.F_drew HFa.out);have HOd:=Aside0.mk (Kd.R_drew HOa.out);have HBd:=Aside0.mk (below_drew1 HBa.out);have HSd:Aside0 ((wr.alloc (.cells #[.int .i64 p.f0,.int .i64 p.f1.f0,.int .i64 p.f1.f1,.int .i64 p.f2] 70 (0,0))).drew.heap.size=wr.heap.size+1∧w.heap.size≤wr.heap.size∧(∀k,S k→k<wr.heap.size)):=HSa;clear BPa HFa HOa HBa HSa;generalize (wr.alloc (.cells #[.int .i64 p.f0,.int .i64 p.f1.f0,.int .i64 p.f1.f1,.int .i64 p.f2] 70 (0,0))).drew=w18 at BPd HFd HOd HBd HSd hHeld ⊢;refine pure_ (i:=0) (N:=some 17) (v:= ?_) (a' := ?_) #[true,false,false,false,false,false,false,false,false,false] rfl rfl (any_of HT_.out (by kernel_rfl)) (fun _ _ _ h=>h) (Or.inl ⟨by rfl,?_⟩) ?_ ?_;rotate_left
      · intro w'
        go_simp
        with_reducible rfl
      rotate_left
      · simp only[Act.put,List.setIfInBounds_toArray,List.set_cons_zero,List.set_cons_succ,i64_w,i32_w]
        rfl
      refine pure_ (i:=2) (N:=some 19) (v:= ?_) (a' := ?_) #[true,false,true,false,false,false,false,false,false,false] rfl rfl (any_of HT_.out (by kernel_rfl)) (fun _ _ _ h=>h) (Or.inl ⟨by rfl,?_⟩) ?_ ?_;rotate_left
      · intro w'
        go_simp
        with_reducible rfl
      rotate_left
      · simp only[Act.put,List.setIfInBounds_toArray,List.set_cons_zero,List.set_cons_succ,i64_w,i32_w]
        rfl
      refine pure_ (i:=3) (N:=some 20) (v:= ?_) (a' := ?_) #[true,false,true,true,false,false,false,false,false,false] rfl rfl (any_of HT_.out (by kernel_rfl)) (fun _ _ _ h=>h) (Or.inl ⟨by rfl,?_⟩) ?_ ?_;rotate_left
      · intro w'
        go_simp
        with_reducible rfl
      rotate_left
      · simp only[Act.put,List.setIfInBounds_toArray,List.set_cons_zero,List.set_cons_succ,i64_w,i32_w]
        rfl
      refine take_ (i:=1) (N:=some 18) (v:= ?_) (a' := ?_) #[true,true,true,true,false,false,false,false,false,false] rfl rfl (take_ofW HT_.out HW_.out (by kernel_rfl)) (fun _ _ _ h=>h) (Or.inl ⟨by rfl,?_⟩) hHeld ?_ ?_;rotate_left
      · rintro w' ⟨s0,s1,s2,s3⟩
        go_simp
        with_reducible rfl
      rotate_left
      · simp only[Act.put,List.setIfInBounds_toArray,List.set_cons_zero,List.set_cons_succ,i64_w,i32_w]
        rfl
      refine one_ (i:=4) (N:=some 21) #[true,true,true,true,true,false,false,false,false,false] rfl rfl (one_of HT_.out (by kernel_rfl)) (by decide) (fun K hK=> ?_);refine goes_ Try.func70 (by kernel_rfl) rfl #[.int .i64 a0,.agg #[.int .i64 p.f0,.int .i64 p.f1.f0,.int .i64 p.f1.f1,.int .i64 p.f2],.slice A' rs.length (cr-1)] (by rfl) rfl rfl (by(try simp only[List.map_toArray,List.map_cons,List.map_nil]);first|done|rfl) ?_;refine(hab _ (Kd.F_now (hF' _ _ HFd.out))).mono ?_;rintro e w20 ⟨v,rfl,hH,hb⟩;refine⟨_,rfl,?_⟩
      have HX20: ∃(S' :Nat→Prop) (Av:Option Addr) (cv:Nat),v= .slice Av l'.length cv∧l'.length≤cv∧Kd.F k70 w20 S' Av l'.length l'∧(∀k,S' k→k<w20.heap.size∧k≠wr.heap.size)∧Kd.R k70 70 w20 w.heap.size (fun k=> ¬S' k∧k≠wr.heap.size) u5 out:=by
        have h0:=HSd.out;have hsz:=hb.size;rcases hH with ⟨rfl,rfl⟩|h
        · refine⟨S,A',cr-1,rfl,hrc1,Kd.F_below (hF' _ _ HFd.out) hb,fun k hk=> ?_,Kd.R_below HOd.out hb⟩
          have:=h0.2.2 k hk;omega
        · obtain⟨Av,cv,rfl⟩:=Kd.R_slice h
          refine⟨fun k=>w18.heap.size+2≤k∧k<w20.heap.size,Av,cv,rfl,(Kd.R_reads' h).2.1,Kd.F_mono (Kd.R_F (Kd.R_bound h)) (fun k hk=>⟨hk.1,hk.2.2.1⟩),fun k hk=>by omega,Kd.R_mono (Kd.R_below (Kd.R_bound HOd.out) hb) (fun k hk=>⟨fun h1=>by have:=hk.2.2.1;omega,hk.1.2⟩)⟩
      obtain⟨S',Av,cv,rfl,hcv,hF20,hS20,hO20⟩:=HX20;have HF20:=Aside0.mk hF20;have HS20:=Aside0.mk hS20;have HO20:=Aside0.mk hO20;have BP20:=Aside0.mk (blk_below BPd.out hb);have HB20:=Aside0.mk (below_step HBd.out hb);have HG20:Aside0 (w.heap.size≤wr.heap.size∧wr.heap.size<w20.heap.size):=⟨HSd.out.2.1,by have h0:=HSd.out;have:=hb.size;omega⟩
      clear hF20 hS20 hO20 hH hb BPd HFd HOd HBd HSd hF' hab;refine hK.out _ _ ⟨(blk_cell BP20.out 0).trans rfl,(blk_cell BP20.out 1).trans rfl,(blk_cell BP20.out 2).trans rfl,(blk_cell BP20.out 3).trans rfl⟩ (fun hHeld=> ?_);clear hK K;refine norm_ (a' := ?_) ?_ ?_;rotate_left
      · show Act.put _ (some 21) _=_
        simp only[Act.put,List.setIfInBounds_toArray,List.set_cons_zero,List.set_cons_succ,i64_w,i32_w];rfl
      refine pure_ (i:=5) (N:=some 16) (v:= ?_) (a' := ?_) #[true,true,true,true,true,true,false,false,false,false] rfl rfl (any_of HT_.out (by kernel_rfl)) (fun _ _ _ h=>h) (Or.inl ⟨by rfl,?_⟩) ?_ ?_;rotate_left
      · intro w'
        go_simp
        with_reducible rfl
      rotate_left
      · simp only[Act.put,List.setIfInBounds_toArray,List.set_cons_zero,List.set_cons_succ,i64_w,i32_w]
        rfl
      refine pure_ (i:=6) (N:=some 22) (v:= ?_) (a' := ?_) #[true,true,true,true,true,true,true,false,false,false] rfl rfl (any_of HT_.out (by kernel_rfl)) (fun _ _ _ h=>h) (Or.inl ⟨by rfl,?_⟩) ?_ ?_;rotate_left
      · intro w'
        go_simp
        with_reducible rfl
      rotate_left
      · simp only[Act.put,List.setIfInBounds_toArray,List.set_cons_zero,List.set_cons_succ,i64_w,i32_w]
        rfl
      refine pure_ (i:=7) (N:=some 23) (v:= ?_) (a' := ?_) #[true,true,true,true,true,true,true,true,false,false] rfl rfl (any_of HT_.out (by kernel_rfl)) (fun _ _ _ h=>h) (Or.inl ⟨by rfl,?_⟩) ?_ ?_;rotate_left
      · intro w'
        go_simp
        with_reducible rfl
      rotate_left
      · simp only[Act.put,List.setIfInBounds_toArray,List.set_cons_zero,List.set_cons_succ,i64_w,i32_w]
        rfl
      have hcz0:w20.cell? ⟨wr.heap.size,0,none⟩=some (.int .i64 p.f0):=(blk_cell BP20.out 0).trans rfl;have hfz0:=blk_frozen BP20.out 0;have hcz1:w20.cell? ⟨wr.heap.size,1,none⟩=some (.int .i64 p.f1.f0):=(blk_cell BP20.out 1).trans rfl;have hfz1:=blk_frozen BP20.out 1;have hcz2:w20.cell? ⟨wr.heap.size,2,none⟩=some (.int .i64 p.f1.f1):=(blk_cell BP20.out 2).trans rfl;have hfz2:=blk_frozen BP20.out 2;have hcz3:w20.cell? ⟨wr.heap.size,3,none⟩=some (.int .i64 p.f2):=(blk_cell BP20.out 3).trans rfl;have hfz3:=blk_frozen BP20.out 3;refine last_ (i:=8) (N:=none) #[true,true,true,true,true,true,true,true,true,false] rfl rfl (one_of HT_.out (by kernel_rfl)) (by decide) (fun K hK=> ?_);refine skip_ (w1:= ?_) (by rfl) rfl ?_ ?_;rotate_left
      · go_simp
        rfl
      refine hK.out _ _ ?_;clear hK K;refine pure_ (i:=9) (N:=some 6) (v:= ?_) (a' := ?_) #[true,true,true,true,true,true,true,true,true,true] rfl rfl (any_of HT_.out (by kernel_rfl)) (fun _ _ _ h=>h) (Or.inl ⟨by rfl,?_⟩) ?_ ?_;rotate_left
      · intro w'
        go_simp
        with_reducible rfl
      rotate_left
      · simp only[Act.put,List.setIfInBounds_toArray,List.set_cons_zero,List.set_cons_succ,i64_w,i32_w]
        rfl
      refine done_ (done_of HT_.out (by kernel_rfl)) ?_;have HGS:=HG20.out;have HFq:Aside0 (Kd.F k70 ((((w20.setCell ⟨wr.heap.size,0,none⟩ (.int .i64 q.f0)).setCell ⟨wr.heap.size,1,none⟩ (.int .i64 q.f1.f0)).setCell ⟨wr.heap.size,2,none⟩ (.int .i64 q.f1.f1)).setCell ⟨wr.heap.size,3,none⟩ (.int .i64 q.f2)) S' Av l'.length l'):=⟨Kd.F_far (Kd.F_far (Kd.F_far (Kd.F_far HF20.out (p:=⟨wr.heap.size,0,none⟩) (fun k hk=>(HS20.out k hk).2) _) (p:=⟨wr.heap.size,1,none⟩) (fun k hk=>(HS20.out k hk).2) _) (p:=⟨wr.heap.size,2,none⟩) (fun k hk=>(HS20.out k hk).2) _) (p:=⟨wr.heap.size,3,none⟩) (fun k hk=>(HS20.out k hk).2) _⟩
      have HOq:Aside0 (Kd.R k70 70 ((((w20.setCell ⟨wr.heap.size,0,none⟩ (.int .i64 q.f0)).setCell ⟨wr.heap.size,1,none⟩ (.int .i64 q.f1.f0)).setCell ⟨wr.heap.size,2,none⟩ (.int .i64 q.f1.f1)).setCell ⟨wr.heap.size,3,none⟩ (.int .i64 q.f2)) w.heap.size (fun k=> ¬S' k∧k≠wr.heap.size) u5 out):=⟨Kd.R_far (Kd.R_far (Kd.R_far (Kd.R_far HO20.out (p:=⟨wr.heap.size,0,none⟩) (fun k hk=>hk.2) _) (p:=⟨wr.heap.size,1,none⟩) (fun k hk=>hk.2) _) (p:=⟨wr.heap.size,2,none⟩) (fun k hk=>hk.2) _) (p:=⟨wr.heap.size,3,none⟩) (fun k hk=>hk.2) _⟩
      have HBq:Aside0 (Below w.heap.size w ((((w20.setCell ⟨wr.heap.size,0,none⟩ (.int .i64 q.f0)).setCell ⟨wr.heap.size,1,none⟩ (.int .i64 q.f1.f0)).setCell ⟨wr.heap.size,2,none⟩ (.int .i64 q.f1.f1)).setCell ⟨wr.heap.size,3,none⟩ (.int .i64 q.f2))):=⟨below_set (below_set (below_set (below_set HB20.out HGS.1) HGS.1) HGS.1) HGS.1⟩
      have HSq:Aside0 (((((w20.setCell ⟨wr.heap.size,0,none⟩ (.int .i64 q.f0)).setCell ⟨wr.heap.size,1,none⟩ (.int .i64 q.f1.f0)).setCell ⟨wr.heap.size,2,none⟩ (.int .i64 q.f1.f1)).setCell ⟨wr.heap.size,3,none⟩ (.int .i64 q.f2)).heap.size=w20.heap.size):=⟨by simp⟩
      clear hHeld
      go_wp2_with ((with_reducible refine gate_builtin (b:= .append) (xs:= #[.tmp 24,.tmp 26]) rfl ?_);at_builtin
                   refine Kd.R_append k70 (w0:=w) w.heap.size rfl (.tmp 24) (.tmp 26) 44 70 (.agg #[(.int .i64 0),(.int .i64 0),(.int .i64 0),(.int .i64 0)]) 32 rfl Try.underlying44 info70 rfl (by decide) (by omega) u5 out q [.int .i64 q.f0,.int .i64 q.f1.f0,.int .i64 q.f1.f1,.int .i64 q.f2] (fun k=> ¬S' k) (fun _=>False) rfl (by rw[HSq.out];rfl) (k70_mkM _ _ _ q) (fun _ hk=>hk.elim) (fun k hk h1=>by have h2:=HS20.out k h1;have h3:=HSq.out;omega) (Kd.R_mono HOq.out (fun k hk=>hk.1)) HBq.out (by have h3:=HSq.out;omega) (by omega) ?_;intro v9 w9 ho hb hg hat;have hown: ∀k,some k=u5.ownBlock→(¬S' k∧k≠wr.heap.size):=fun k hk=>HOq.out.1 k hk.symm
                   have HF9:Aside0 (Kd.F k70 w9 S' Av l'.length l'):=⟨Kd.F_grown HFq.out hg (fun k hk he=>(hown _ he).1 hk)⟩
                   have hsz9:Aside0 (w20.heap.size≤w9.heap.size):=⟨by have h3:=HSq.out;have h4:=hg.size;omega⟩
                   have HO9:=Aside0.mk ho;have HB9:=Aside0.mk hb;clear ho hb hg hat hown)
      cases gk with
      |zero=>exact absurd hky (by simp)
      | succ k1=>
        go_roundg k1
        case measure=>omega
        case rel=>
          have hky1:rs.length≤k1:=by have h:=hky;simp only[List.length_cons] at h;omega
          have h1:l'.length≤rs.length:=HLL.out;refine⟨out++[q],l',Av,cv,S',rfl,hcv,by omega,by simp only[List.length_append,List.length_singleton];omega,⟨?_⟩,HO9,HF9,⟨fun k hk=>Nat.lt_of_lt_of_le (HS20.out k hk).1 hsz9.out⟩,HB9⟩;rw[←HE.out,joinF,HPL.out]
end Go.Proofs.Ytjegeghigfmkoaa.X
namespace Go.Proofs.Ytjegeghigfmkoaa.Th
open Go.RowKit Go.Sort Go.Proofs.YtjegeghigfmkoaaW.PrintWords Go.Proofs.YtjegeghigfmkoaaW.PrintMore Go.Proofs.Ytjegeghigfmkoaa Go.Proofs.Ytjegeghigfmkoaa.So Go.Proofs.Ytjegeghigfmkoaa.X Go.Proofs.Ytjegeghigfmkoaa.Nf
set_option maxRecDepth 100000
set_option linter.unusedVariables false
set_option linter.unusedSimpArgs false
def leO (x y:S70):Bool:= !ltOf cmpO y x
theorem leO_iff (x y:S70):leO x y=true↔ltOf cmpO y x=false:=by unfold leO;simp
theorem leO_trans (x y z:S70):leO x y=true→leO y z=true→leO x z=true:=by
 simp only[leO_iff];intro h1 h2;exact swoO.ntrans _ _ _ h2 h1
theorem leO_total (x y:S70):(leO x y||leO y x)=true:=by
 rw[Bool.or_eq_true,leO_iff,leO_iff];cases h:ltOf cmpO y x with
 |false=>exact .inl rfl
 |true=>
  right;cases h2:ltOf cmpO x y with
  |false=>rfl
  |true=>have:=swoO.trans _ _ _ h h2;rw[swoO.irrefl] at this;cases this
theorem leO_anti (x y:S70) (h1:leO x y=true) (h2:leO y x=true):x=y:=ltO_eq x y ((leO_iff _ _).1 h2) ((leO_iff _ _).1 h1)
theorem sortP_perm (l:List S70):(sortP l).Perm l:=List.mergeSort_perm l _
def Sorted (l:List S70):Prop:=l.Pairwise (fun x y=>leO x y=true)
theorem sortP_sorted (l:List S70):Sorted (sortP l):=List.pairwise_mergeSort leO_trans leO_total l
theorem sorted_unique {l m:List S70} (h:l.Perm m) (h1:Sorted l) (h2:Sorted m):l=m:=
 List.Perm.eq_of_pairwise (fun x y _ _ a b=>leO_anti x y a b) h1 h2 h
theorem sortP_congr {l m:List S70} (h:l.Perm m):sortP l=sortP m:=sorted_unique ((sortP_perm l).trans (h.trans (sortP_perm m).symm)) (sortP_sorted l) (sortP_sorted m)
theorem sortP_same {l:List S70} (h:Sorted l):sortP l=l:=sorted_unique (sortP_perm l) (sortP_sorted l) h
def hitK (kind:Int) (p x:S70):Prop:=if kind=3 then hitP p x=true else sameP p x=true
theorem hitP_iff (p x:S70):hitP p x=true↔(x.f0=p.f0∧x.f1.f0<p.f1.f1∧p.f1.f0<x.f1.f1∧x.f1.f0<x.f1.f1∧p.f1.f0<p.f1.f1):=by
 unfold hitP mx mn;rw[Bool.and_eq_true,beq_iff_eq,decide_eq_true_iff];constructor
 ·rintro ⟨h1,h2⟩;split at h2<;>split at h2<;>omega
 ·rintro ⟨h1,h2,h3,h4,h5⟩;refine⟨h1,?_⟩;split<;>split<;>omega
theorem sameP_iff (p x:S70):sameP p x=true↔(x.f0=p.f0∧x.f1.f0=p.f1.f0∧x.f1.f1=p.f1.f1):=by
 unfold sameP;rw[Bool.and_eq_true,Bool.and_eq_true,beq_iff_eq,beq_iff_eq,beq_iff_eq]
theorem merge_both {a:Int} (ha:aggOk a=true) (x y:Int):aggMerge a x y=aggBoth a x y:=by unfold aggMerge;rw[if_pos ha]
theorem hitK_key {kind:Int} {p x:S70} (h:hitK kind p x):x.f0=p.f0:=by
 unfold hitK at h;split at h
 ·exact((hitP_iff _ _).1 h).1
 ·exact((sameP_iff _ _).1 h).1
theorem S70_ext {x y:S70} (h0:x.f0=y.f0) (h1:x.f1.f0=y.f1.f0) (h2:x.f1.f1=y.f1.f1) (h3:x.f2=y.f2):x=y:=by
 obtain⟨_,⟨_,_⟩,_⟩:=x;obtain⟨_,⟨_,_⟩,_⟩:=y
 simp_all
theorem mgK (kind:Int) {a:Int} (ha:aggOk a=true):Mg (hitK kind) (joinP a) where
 sym {x y} h:=by
  unfold hitK at*
  by_cases hk:kind=3
  ·rw[if_pos hk,hitP_iff] at*;omega
  ·rw[if_neg hk,sameP_iff] at*;omega
 comm {x y} h:=by
  have hkey:=hitK_key h;refine S70_ext hkey.symm ?_ ?_ ?_
  ·show mn _ _=mn _ _;unfold mn;split<;>split<;>omega
  ·show mx _ _=mx _ _;unfold mx;split<;>split<;>omega
  ·show aggMerge a _ _=aggMerge a _ _;rw[merge_both ha,merge_both ha,both_comm]
 turn {x y z} h1 h2:=by
  refine S70_ext rfl ?_ ?_ ?_
  ·show mn (mn _ _) _=mn (mn _ _) _;unfold mn;(repeat' split)<;>omega
  ·show mx (mx _ _) _=mx (mx _ _) _;unfold mx;(repeat' split)<;>omega
  ·show aggMerge a (aggMerge a _ _) _=aggMerge a (aggMerge a _ _) _;simp only[merge_both ha];rw[both_assoc,both_comm a y.f2,←both_assoc]
 mono {x y z} h1 h2:=by
  unfold hitK at*
  by_cases hk:kind=3
  ·rw[if_pos hk,hitP_iff] at*
   show z.f0=x.f0∧z.f1.f0<mx x.f1.f1 y.f1.f1∧mn x.f1.f0 y.f1.f0<z.f1.f1∧z.f1.f0<z.f1.f1∧mn x.f1.f0 y.f1.f0<mx x.f1.f1 y.f1.f1;unfold mx mn
   (repeat' split)<;>omega
  ·rw[if_neg hk,sameP_iff] at*
   show z.f0=x.f0∧z.f1.f0=mn x.f1.f0 y.f1.f0∧z.f1.f1=mx x.f1.f1 y.f1.f1;unfold mx mn
   (repeat' split)<;>omega
abbrev RSk (kind a:Int):=RS (hitK kind) (joinP a)
abbrev NK (kind:Int):=Normal (hitK kind)
theorem getD_at {l:List S70} {i:Nat} (h:i<l.length):l.getD i z70=l[i]:=by simp[h]
theorem perm_erase: ∀(l:List S70) {i:Nat} (h:i<l.length),l.Perm (l[i]::l.eraseIdx i)
 |[],_,h=>absurd h (by simp)
 |x::l,0,_=> .refl _
 |x::l,i+1,h=>by
  have h1:=perm_erase l (i:=i) (by simpa using h);exact(h1.cons x).trans (.swap _ _ _)
theorem absorbF_rs (a:Int): ∀(k:Nat) (p:S70) (l:List S70),l.length<k→
  RSk 3 a (p::l) ((absorbF a k p l).1::(absorbF a k p l).2)∧(∀x ∈(absorbF a k p l).2,¬hitK 3 (absorbF a k p l).1 x)∧(absorbF a k p l).2.Sublist l∧(absorbF a k p l).1.f0=p.f0
 |0,p,l,h=>absurd h (by omega)
 | k+1,p,l,h=>by
  rw[absorbF];cases hf:l.findIdx? (hitP p) with
  |none=>
   refine⟨.done (.refl _),fun x hx=> ?_,.refl _,rfl⟩;rw[List.findIdx?_eq_none_iff] at hf;unfold hitK;rw[if_pos rfl,hf x hx];simp
  |some i=>
   obtain⟨hi,hh,_⟩:=List.findIdx?_eq_some_iff_getElem.1 hf;have hlen:(l.eraseIdx i).length=l.length-1:=List.length_eraseIdx_of_lt hi;obtain⟨h1,h2,h3,h4⟩:=absorbF_rs a k (joinP a p (l.getD i z70)) (l.eraseIdx i) (by omega);refine⟨?_,h2,h3.trans (List.eraseIdx_sublist l i),h4⟩;refine .step (.mk (r:=l.eraseIdx i) (x:=p) (y:=l[i]) ((perm_erase l hi).cons p) ?_ ?_) h1
   ·unfold hitK;rw[if_pos rfl];exact hh
   ·rw[getD_at hi]
theorem absorb_rs (a:Int) (p:S70) (l:List S70):
  RSk 3 a (p::l) ((absorbP a p l).1::(absorbP a p l).2)∧(∀x ∈(absorbP a p l).2,¬hitK 3 (absorbP a p l).1 x)∧(absorbP a p l).2.Sublist l∧(absorbP a p l).1.f0=p.f0:=
 absorbF_rs a (l.length+1) p l (by omega)
end Go.Proofs.Ytjegeghigfmkoaa.Th
namespace Go.Proofs.Ytjegeghigfmkoaa.Th
open Go.RowKit Go.Sort Go.Proofs.YtjegeghigfmkoaaW.PrintWords Go.Proofs.YtjegeghigfmkoaaW.PrintMore Go.Proofs.Ytjegeghigfmkoaa Go.Proofs.Ytjegeghigfmkoaa.So Go.Proofs.Ytjegeghigfmkoaa.X Go.Proofs.Ytjegeghigfmkoaa.Nf
set_option maxRecDepth 100000
set_option linter.unusedVariables false
set_option linter.unusedSimpArgs false
def one (a key val:Int) (s:S68):S70:=⟨key,s,aggAdd a (aggZero a) val⟩
def addv (a v:Int) (p:S70):S70:=⟨p.f0,p.f1,aggBoth a p.f2 v⟩
theorem join_addv {a:Int} (ha:aggOk a=true) (v:Int) (p x:S70):joinP a (addv a v p) x=addv a v (joinP a p x):=by
 refine S70_ext rfl rfl rfl ?_;show aggMerge a (aggBoth a p.f2 v) x.f2=aggBoth a (aggMerge a p.f2 x.f2) v;rw[merge_both ha,merge_both ha,both_assoc,both_comm a v,←both_assoc]
theorem absorbF_addv {a:Int} (ha:aggOk a=true) (v:Int): ∀(k:Nat) (p:S70) (l:List S70),absorbF a k (addv a v p) l=(addv a v (absorbF a k p l).1,(absorbF a k p l).2)
 |0,p,l=>rfl
 | k+1,p,l=>by
  rw[absorbF,absorbF,show hitP (addv a v p)=hitP p from rfl];cases hf:l.findIdx? (hitP p) with
  |none=>rfl
  |some i=>
   show absorbF a k (joinP a (addv a v p) (l.getD i z70)) (l.eraseIdx i)=_;rw[join_addv ha];exact absorbF_addv ha v k _ _
theorem one_addv {a:Int} (ha:aggOk a=true) (key val:Int) (s:S68):one a key val s=addv a (aggVal a val) ⟨key,s,aggZero a⟩:=by
 unfold one addv;rw[add_eq ha]
theorem stepP_session {a:Int} (ha:aggOk a=true) (key val:Int) (out:List S70) (s:S68):
  stepP 3 a key val out s=(absorbP a (one a key val s) out).2++[(absorbP a (one a key val s) out).1]:=by
 rw[stepP,if_pos rfl,one_addv ha];unfold absorbP;rw[absorbF_addv ha];show _=_++[addv a (aggVal a val) _]
 unfold addv;rw[add_eq ha]
theorem perm_set: ∀(l:List S70) {i:Nat} (h:i<l.length) (y:S70),(l.set i y).Perm (y::l.eraseIdx i)
 |[],_,h,_=>absurd h (by simp)
 |x::l,0,_,y=> .refl _
 |x::l,i+1,h,y=>by
  have h1:=perm_set l (i:=i) (by simpa using h) y;exact(h1.cons x).trans (.swap _ _ _)
theorem step_rs {kind a:Int} (ha:aggOk a=true) (key:Int) {val:Int} (hv:I64 val) (out:List S70) (s:S68) (hN:NK kind out):
  RSk kind a (one a key val s::out) (stepP kind a key val out s)∧NK kind (stepP kind a key val out s):=by
 by_cases hk:kind=3
 ·subst hk;rw[stepP_session ha];obtain⟨h1,h2,h3,h4⟩:=absorb_rs a (one a key val s) out;have hp:((absorbP a (one a key val s) out).1::(absorbP a (one a key val s) out).2).Perm ((absorbP a (one a key val s) out).2++[(absorbP a (one a key val s) out).1]):=(List.perm_append_singleton _ _).symm;refine⟨h1.perm (.refl _) hp,Normal.perm (mgK 3 ha) (List.pairwise_cons.2 ⟨h2,List.Pairwise.sublist h3 hN⟩) hp⟩
 ·rw[stepP,if_neg hk];cases hf:out.findIdx? (sameP ⟨key,s,aggZero a⟩) with
  |none=>
   have hp:(one a key val s::out).Perm (out++[one a key val s]):=(List.perm_append_singleton _ _).symm;refine⟨.done hp,Normal.perm (mgK kind ha) (List.pairwise_cons.2 ⟨fun x hx=> ?_,hN⟩) hp⟩;rw[List.findIdx?_eq_none_iff] at hf;unfold hitK;rw[if_neg hk,show sameP (one a key val s) x=sameP ⟨key,s,aggZero a⟩ x from rfl,hf x hx];simp
  | some i=>
   obtain⟨hi,hh,_⟩:=List.findIdx?_eq_some_iff_getElem.1 hf;have hs:=(sameP_iff _ _).1 hh;have hs0:out[i].f0=key:=hs.1;have hs1:out[i].f1.f0=s.f0:=hs.2.1;have hs2:out[i].f1.f1=s.f1:=hs.2.2;have hv2:=val_in a hv
   have hacc:aggMerge a (aggAdd a (aggZero a) val) out[i].f2=aggAdd a out[i].f2 val:=by
    rw[merge_both ha,add_eq ha,add_eq ha,both_comm a (aggZero a),both_zero ha hv2,both_comm]
   have he:(⟨(out.getD i z70).f0,(out.getD i z70).f1,aggAdd a (out.getD i z70).f2 val⟩:S70)=joinP a (one a key val s) out[i]:=by
    rw[getD_at hi];refine S70_ext hs0 ?_ ?_ hacc.symm
    ·show out[i].f1.f0=mn s.f0 out[i].f1.f0;rw[hs1];unfold mn;split<;>omega
    ·show out[i].f1.f1=mx s.f1 out[i].f1.f1;rw[hs2];unfold mx;split<;>omega
   show RSk kind a _ (out.set i _)∧NK kind (out.set i _);rw[he];have hp:=perm_set out hi (joinP a (one a key val s) out[i]);have hN2:=Normal.perm (mgK kind ha) hN (perm_erase out hi);refine⟨.step (.mk (r:=out.eraseIdx i) (x:=one a key val s) (y:=out[i]) ((perm_erase out hi).cons _) ?_ (.refl _)) (.done hp.symm),Normal.perm (mgK kind ha) (List.pairwise_cons.2 ⟨fun x hx h=> ?_,(List.pairwise_cons.1 hN2).2⟩) hp.symm⟩
   ·unfold hitK;rw[if_neg hk];exact hh
   ·have h0:=(List.pairwise_cons.1 hN2).1 x hx;apply h0;unfold hitK at*
    rw[if_neg hk,sameP_iff] at*
    rw[←he] at h;rw[getD_at hi] at h;exact h
theorem fold_rs {kind a:Int} (ha:aggOk a=true) (key:Int) {val:Int} (hv:I64 val): ∀(ss:List S68) (out:List S70),NK kind out→
  RSk kind a (ss.map (one a key val)++out) (ss.foldl (stepP kind a key val) out)∧NK kind (ss.foldl (stepP kind a key val) out)
 |[],out,h=>⟨.done (.refl _),h⟩
 |s::ss,out,h=>by
  obtain⟨h1,h2⟩:=step_rs ha key hv out s h;obtain⟨h3,h4⟩:=fold_rs ha key hv ss _ h2;refine⟨RS.trans (RS.perm (RS.app2 h1 (ss.map (one a key val))) ?_ (.refl _)) h3,h4⟩;exact List.perm_middle
def putL (kind a key val:Int) (ss:List S68) (l:List S70):List S70:=sortP (ss.foldl (stepP kind a key val) l)
structure Is (kind a:Int) (all p:List S70):Prop where
 rs:RSk kind a all p
 nk:NK kind p
 st:Sorted p
theorem Is.unique {kind a:Int} (ha:aggOk a=true) {x y p q:List S70} (hp:Is kind a x p) (hq:Is kind a y q) (h:x.Perm y):p=q:=
 sorted_unique (Nf.unique (mgK kind ha) (hp.rs.perm h (.refl _)) hq.rs hp.nk hq.nk) hp.st hq.st
theorem Is.nil (kind a:Int):Is kind a [] []:=⟨.done (.refl _),List.Pairwise.nil,List.Pairwise.nil⟩
theorem Is.sort {kind a:Int} (ha:aggOk a=true) {x q:List S70} (h:RSk kind a x q) (hN:NK kind q):Is kind a x (sortP q):=
 ⟨h.perm (.refl _) (sortP_perm q).symm,Normal.perm (mgK kind ha) hN (sortP_perm q).symm,sortP_sorted q⟩
theorem Is.put {kind a:Int} (ha:aggOk a=true) {x p:List S70} (h:Is kind a x p) (key:Int) {val:Int} (hv:I64 val) (ss:List S68):
  Is kind a (x++ss.map (one a key val)) (putL kind a key val ss p):=by
 obtain⟨h1,h2⟩:=fold_rs (kind:=kind) ha key hv ss p h.nk;exact Is.sort ha (RS.trans (RS.perm (RS.app2 h.rs (ss.map (one a key val))) List.perm_append_comm (.refl _)) h1) h2
theorem rs_len {kind a:Int} {x p:List S70} (h:RSk kind a x p):p.length≤x.length:=by
 induction h with
 |done h=>rw[h.length_eq];exact Nat.le_refl _
 |step h1 h2 ih=>have:=h1.len;omega
def ones (a:Int) (sp:Int→List S68) (rs:List S39):List S70:=rs.flatMap (fun r=>(sp r.f1).map (one a r.f0 r.f2))
theorem ones_snoc (a:Int) (sp:Int→List S68) (rs:List S39) (r:S39):ones a sp (rs++[r])=ones a sp rs++(sp r.f1).map (one a r.f0 r.f2):=by
 unfold ones;rw[List.flatMap_append];simp
theorem ones_perm (a:Int) (sp:Int→List S68) {x y:List S39} (h:x.Perm y):(ones a sp x).Perm (ones a sp y):=h.flatMap_right _
end Go.Proofs.Ytjegeghigfmkoaa.Th
namespace Go.Proofs.Ytjegeghigfmkoaa.Th
open Go.RowKit Go.Sort Go.Proofs.YtjegeghigfmkoaaW.PrintWords Go.Proofs.YtjegeghigfmkoaaW.PrintMore Go.Proofs.Ytjegeghigfmkoaa Go.Proofs.Ytjegeghigfmkoaa.So Go.Proofs.Ytjegeghigfmkoaa.X Go.Proofs.Ytjegeghigfmkoaa.Nf
set_option linter.unusedVariables false
set_option linter.unusedSimpArgs false
def Sp {α:Type} (P:α→Prop) (f:Nat→Option α):Prop:= ∃r,P r∧Ev f r
theorem w_in {x:Int} (h: -9223372036854775808≤x∧x≤9223372036854775807):wrap64 x=x:=wrap_in h
theorem step_i {i n:Nat} (h:i<n) (hn:n<4611686018427387904):wrap64 ((i:Int)+1)=((i+1:Nat):Int):=by unfold wrap64;omega
theorem rd46_at {l:List S70} {i:Nat} (h:i<l.length):rd_T70 l (i:Int)=l[i]:=by simp[rd_T70,h]
theorem rd31_at {l:List S68} {i:Nat} (h:i<l.length):rd_T68 l (i:Int)=l[i]:=by simp[rd_T68,h]
theorem panes_l0 (l:List S70) (hn:l.length<4611686018427387904): ∀(d i:Nat),l.length=i+d→Ev (fun k=>leathelp_Panes.l0 k l l (i:Int)) true
 |0,i,h=>by
  refine Ev.step (f:=fun _=>some true) (fun k=> ?_) (Ev.now _);simp only[leathelp_Panes.l0];rw[if_neg (by omega)]
 |d+1,i,h=>by
  refine Ev.step (fun k=> ?_) (panes_l0 l hn d (i+1) (by omega));simp only[leathelp_Panes.l0];rw[if_pos (by omega),if_pos (by omega),if_pos (by omega),if_neg (by simp),step_i (show i<l.length by omega) hn]
theorem panes_ev (l:List S70) (hn:l.length<4611686018427387904):Ev (fun k=>leathelp_Panes.f k l l) true:=
 Ev.congr (fun k=>by rw[leathelp_Panes.f,if_pos rfl];rfl) (panes_l0 l hn l.length 0 (by omega))
theorem records_l0 (l:List S39) (hn:l.length<4611686018427387904): ∀(d i:Nat),l.length=i+d→Ev (fun k=>leathelp_Records.l0 k l l (i:Int)) true
 |0,i,h=>by
  refine Ev.step (f:=fun _=>some true) (fun k=> ?_) (Ev.now _);simp only[leathelp_Records.l0];rw[if_neg (by omega)]
 |d+1,i,h=>by
  refine Ev.step (fun k=> ?_) (records_l0 l hn d (i+1) (by omega));simp only[leathelp_Records.l0];rw[if_pos (by omega),if_pos (by omega),if_pos (by omega),if_neg (by simp),step_i (show i<l.length by omega) hn]
theorem records_ev (l:List S39) (hn:l.length<4611686018427387904):Ev (fun k=>leathelp_Records.f k l l) true:=
 Ev.congr (fun k=>by rw[leathelp_Records.f,if_pos rfl];rfl) (records_l0 l hn l.length 0 (by omega))
structure Fit (kind size slide:Int):Prop where
 k1:1≤kind
 k3:kind≤3
 s1:1≤size
 s2:size≤68719476736
 sl:kind=2→1≤slide∧slide≤68719476736∧size≤64*slide
 no:kind≠2→slide=0
def TimeOk (t:Int):Prop:= -1125899906842624≤t∧t≤1125899906842624
instance (t:Int):Decidable (TimeOk t):=by unfold TimeOk;infer_instance
theorem time_eq (t:Int):leatlaw12_time.f t=some (decide (TimeOk t)):=by
 unfold leatlaw12_time.f;by_cases h:t≥ -1125899906842624
 ·rw[if_pos h];by_cases h2:t≤1125899906842624
  ·rw[decide_eq_true h2,decide_eq_true (show TimeOk t from⟨h,h2⟩)]
  ·rw[decide_eq_false h2,decide_eq_false (fun hh:TimeOk t=>h2 hh.2)]
 ·rw[if_neg h,decide_eq_false (fun hh:TimeOk t=>h hh.1)]
theorem tdiv_le {x y:Int} (hx:0≤x) (hy:1≤y) (h:Int.tdiv x y<64):x<64*y:=by
 rw[Int.tdiv_eq_ediv_of_nonneg hx] at h;have h1:=Int.lt_ediv_add_one_mul_self x (show 0<y by omega);have h2:(x / y+1)*y≤64*y:=Int.mul_le_mul_of_nonneg_right (by omega) (by omega);omega
def FitA (kind size slide a:Int):Prop:=(1≤a∧a≤5)∧(kind=0∧size=0∧slide=0∨Fit kind size slide)
theorem fit_sp (kind size slide a:Int):Sp (fun b=>b=true→FitA kind size slide a) (fun k=>leatlaw12_fit.f k kind size slide a):=by
 have j0:Ev (fun k=>leatlaw12_fit.j0 k true kind size slide) false:=Ev.step (f:=fun _=>some false) (fun k=>by simp only[leatlaw12_fit.j0];exact if_pos trivial) (Ev.now _);by_cases ha1:a<1
 ·exact⟨false,nofun,Ev.congr (fun k=>by rw[leatlaw12_fit.f,if_pos ha1]) j0⟩
 by_cases ha2:a>5
 ·exact⟨false,nofun,Ev.congr (fun k=>by rw[leatlaw12_fit.f,if_neg ha1,decide_eq_true ha2]) j0⟩
 have e0: ∀k,leatlaw12_fit.f k kind size slide a=leatlaw12_fit.j0 k false kind size slide:=fun k=>by rw[leatlaw12_fit.f,if_neg ha1,decide_eq_false ha2]
 have j1:Ev (fun k=>leatlaw12_fit.j1 k true kind size slide) false:=Ev.step (f:=fun _=>some false) (fun k=>by simp only[leatlaw12_fit.j1];exact if_pos trivial) (Ev.now _);by_cases hz:(kind==0 && (size==0 && (slide==0)))=true
 ·refine⟨true,fun _=>⟨by omega,Or.inl (by simpa using hz)⟩,Ev.congr e0 (Ev.step (f:=fun _=>some true) (fun k=> ?_) (Ev.now _))⟩;simp only[leatlaw12_fit.j0];rw[if_neg (by simp),if_pos hz]
 by_cases h1:kind<1
 ·refine⟨false,nofun,Ev.congr e0 (Ev.step (fun k=> ?_) j1)⟩;simp only[leatlaw12_fit.j0];rw[if_neg (by simp),if_neg hz,if_pos h1]
 by_cases h2:kind>3
 ·refine⟨false,nofun,Ev.congr e0 (Ev.step (fun k=> ?_) j1)⟩;simp only[leatlaw12_fit.j0];rw[if_neg (by simp),if_neg hz,if_neg h1,if_pos h2]
 by_cases h3:size<1
 ·refine⟨false,nofun,Ev.congr e0 (Ev.step (fun k=> ?_) j1)⟩;simp only[leatlaw12_fit.j0];rw[if_neg (by simp),if_neg hz,if_neg h1,if_neg h2,if_pos h3]
 have hst: ∀k,leatlaw12_fit.j0 (k+1) false kind size slide=leatlaw12_fit.j1 k (decide (size>68719476736)) kind size slide:=fun k=>by
  simp only[leatlaw12_fit.j0];rw[if_neg (by simp),if_neg hz,if_neg h1,if_neg h2,if_neg h3]
 by_cases h4:size>68719476736
 ·refine⟨false,nofun,Ev.congr e0 (Ev.step (fun k=> ?_) j1)⟩;show leatlaw12_fit.j0 (k+1) false kind size slide=_;rw[hst,decide_eq_true h4]
 have e2: ∀{r:Bool},Ev (fun k=>leatlaw12_fit.j1 k false kind size slide) r→Ev (fun k=>leatlaw12_fit.f k kind size slide a) r:=fun h=>Ev.congr e0 (Ev.step (fun k=>by
  show leatlaw12_fit.j0 (k+1) false kind size slide=_;rw[hst,decide_eq_false h4]) h)
 have ha:1≤a∧a≤5:=by omega
 by_cases h5:kind=2
 ·by_cases h6:slide≥1
  ·by_cases h7:slide≤68719476736
   ·have hw:wrap64 (size-1)=size-1:=w_in (by omega);have hd:0≤Int.tdiv (size-1) slide:=by rw[Int.tdiv_eq_ediv_of_nonneg (by omega)];exact Int.ediv_nonneg (by omega) (by omega)
    have hd2:Int.tdiv (size-1) slide≤size-1:=by rw[Int.tdiv_eq_ediv_of_nonneg (by omega)];exact Int.ediv_le_self _ (by omega)
    have hw2:wrap64 (Int.tdiv (size-1) slide)=Int.tdiv (size-1) slide:=w_in (by omega);refine⟨decide (Int.tdiv (size-1) slide<64),fun h=>⟨ha,Or.inr ⟨by omega,by omega,by omega,by omega,fun _=>⟨by omega,h7,?_⟩,fun hn=>absurd h5 hn⟩⟩,?_⟩
    ·have:=tdiv_le (show 0≤size-1 by omega) (show 1≤slide by omega) (of_decide_eq_true h);omega
    ·refine e2 (Ev.step (f:=fun _=>some _) (fun k=> ?_) (Ev.now _));simp only[leatlaw12_fit.j1];rw[if_neg (by simp),if_pos h5,if_pos h6,if_pos h7,if_neg (by omega),hw,hw2]
   ·refine⟨false,nofun,e2 (Ev.step (f:=fun _=>some _) (fun k=> ?_) (Ev.now _))⟩;simp only[leatlaw12_fit.j1];rw[if_neg (by simp),if_pos h5,if_pos h6,if_neg h7]
  ·refine⟨false,nofun,e2 (Ev.step (f:=fun _=>some _) (fun k=> ?_) (Ev.now _))⟩;simp only[leatlaw12_fit.j1];rw[if_neg (by simp),if_pos h5,if_neg h6]
 ·refine⟨slide==0,fun h=>⟨ha,Or.inr ⟨by omega,by omega,by omega,by omega,fun hk=>absurd hk h5,fun _=>by simpa using h⟩⟩,e2 (Ev.step (f:=fun _=>some _) (fun k=> ?_) (Ev.now _))⟩;simp only[leatlaw12_fit.j1];rw[if_neg (by simp),if_neg h5]
def fl (t n:Int):Int:=t-t % n
theorem tdiv_mul (t n:Int):Int.tdiv t n*n=t-Int.tmod t n:=by
 have h:=Int.tmod_add_tdiv_mul t n;omega
theorem tmod_cases (t n:Int) (hn:1≤n):Int.tmod t n=t % n∨(Int.tmod t n=t % n-n∧t % n≠0∧t<0):=by
 have h1:=Int.emod_nonneg t (show n≠0 by omega);rcases Int.le_total 0 t with h|h
 ·left;exact Int.tmod_eq_emod_of_nonneg h
 ·rw[Int.tmod_eq_emod];by_cases hd:n ∣ t
  ·left;rw[if_pos (.inr hd)];omega
  ·by_cases h0:0≤t
   ·left;rw[if_pos (.inl h0)];omega
   ·right;rw[if_neg (by rintro (h|h)<;>contradiction)];refine⟨by omega,fun he=>hd (Int.dvd_of_emod_eq_zero he),by omega⟩
theorem fl_bounds (t n:Int) (hn:1≤n):fl t n≤t∧t-n<fl t n:=by
 have h1:=Int.emod_nonneg t (show n≠0 by omega);have h2:=Int.emod_lt_of_pos t (show 0<n by omega);unfold fl;omega
theorem below_eq {t n:Int} (ht:TimeOk t) (hn:1≤n∧n≤68719476736):window_below.f t n=some (fl t n):=by
 unfold TimeOk at ht;have hb:=fl_bounds t n hn.1;have h1:=Int.emod_nonneg t (show n≠0 by omega);have h2:=Int.emod_lt_of_pos t (show 0<n by omega)
 have hq: -1125899906842624≤Int.tdiv t n∧Int.tdiv t n≤1125899906842624:=by
  rcases Int.le_total 0 t with h|h
  ·rw[Int.tdiv_eq_ediv_of_nonneg h];exact⟨by have:=Int.ediv_nonneg h (show 0≤n by omega);omega,by have:=Int.ediv_le_self n h;omega⟩
  ·have e:Int.tdiv t n= - Int.tdiv (-t) n:=by rw[Int.neg_tdiv];omega
   rw[e,Int.tdiv_eq_ediv_of_nonneg (show 0≤ -t by omega)];have a1:=Int.ediv_nonneg (show 0≤ -t by omega) (show 0≤n by omega);have a2:=Int.ediv_le_self n (show 0≤ -t by omega);omega
 have hw:wrap64 (Int.tdiv t n)=Int.tdiv t n:=w_in (by omega);unfold window_below.f;rw[if_neg (by omega),hw,tdiv_mul];rcases tmod_cases t n hn.1 with h|⟨h,h3,h4⟩
 ·rw[h,w_in (show _ by omega),if_neg (by omega)];rfl
 ·rw[h,w_in (show _ by omega),if_pos (by omega),w_in (show _ by omega)];unfold fl;congr 1;omega
theorem floor_eq {t n:Int} (ht:TimeOk t) (hn:1≤n∧n≤68719476736):leatref11_floor.f t n=some (fl t n):=by
 unfold TimeOk at ht;have h1:=Int.emod_nonneg t (show n≠0 by omega);have h2:=Int.emod_lt_of_pos t (show 0<n by omega);unfold leatref11_floor.f;rw[if_neg (by omega)];rcases tmod_cases t n hn.1 with h|⟨h,h3,h4⟩
 ·rw[h,if_neg (by omega),w_in (show _ by omega)];rfl
 ·rw[h,if_pos (by omega),w_in (show -9223372036854775808≤t % n-n+n∧_ by omega),w_in (show _ by omega)];unfold fl;congr 1;omega
def backL (size slide t:Int):Nat→Int→List S68
 |0,_=>[]
 |n+1,s=>if s+size>t then⟨s,s+size⟩::backL size slide t n (s-slide) else[]
theorem back_len (size slide t:Int): ∀(n:Nat) (s:Int),(backL size slide t n s).length≤n
 |0,_=>Nat.le_refl _
 |n+1,s=>by
  rw[backL];split
  ·have:=back_len size slide t n (s-slide);simp only[List.length_cons];omega
  ·simp
def spansP (kind size slide t:Int):List S68:=
 if kind=1 then[⟨fl t size,fl t size+size⟩] else if kind=3 then[⟨t,t+size⟩] else(backL size slide t 64 (fl t slide)).reverse
theorem spansP_len (kind size slide t:Int):(spansP kind size slide t).length≤64:=by
 unfold spansP;split
 ·simp
 ·split
  ·simp
  ·rw[List.length_reverse];exact back_len _ _ _ _ _
theorem rev_l0: ∀(d:Nat) (x:List S68) (i j:Nat),x.length<4611686018427387904→i+j+1=x.length→j≤i+d→
  Sp (fun r=>r.length=x.length∧ ∀p,p<x.length→r.getD p z68=if i≤p∧p≤j then x.getD (x.length-1-p) z68 else x.getD p z68) (fun k=>api_Span.l0 k x (i:Int) (j:Int))
 |0,x,i,j,hn,hs,hd=>by
  refine⟨x,⟨rfl,fun p hp=> ?_⟩,Ev.step (f:=fun _=>some x) (fun k=>by simp only[api_Span.l0];rw[if_neg (by omega)]) (Ev.now _)⟩;split
  ·congr 1;omega
  ·rfl
 | d +1,x,i,j,hn,hs,hd=>by
  by_cases hij:i<j
  ·have hj1:wrap64 ((j:Int)-1)=((j-1:Nat):Int):=by rw[w_in (by omega)];omega
   have hi1:wrap64 ((i:Int)+1)=((i+1:Nat):Int):=by rw[w_in (by omega)];omega
   have hxl:((x.set i (rd_T68 x (j:Int))).set j (rd_T68 x (i:Int))).length=x.length:=by simp
   obtain⟨r,⟨hr1,hr2⟩,hev⟩:=rev_l0 d ((x.set i (rd_T68 x (j:Int))).set j (rd_T68 x (i:Int))) (i+1) (j-1) (by rw[hxl];exact hn) (by rw[hxl];omega) (by omega);rw[hxl] at hr1 hr2;refine⟨r,⟨hr1,fun p hp=> ?_⟩,Ev.step (fun k=> ?_) hev⟩
   ·rw[hr2 p hp]
    have g: ∀q,q<x.length→((x.set i (rd_T68 x (j:Int))).set j (rd_T68 x (i:Int))).getD q z68=if q=j then x.getD i z68 else if q=i then x.getD j z68 else x.getD q z68:=by
     intro q hq;simp only[List.getD_eq_getElem?_getD,List.getElem?_set,List.length_set,rd_T68,Int.toNat_natCast];by_cases h1:j=q
     ·subst h1;simp[hq]
     ·by_cases h2:i=q
      ·subst h2;simp[h1,hq,(show ¬i=j by omega)]
      ·simp[h1,h2,(show ¬q=j by omega),(show ¬q=i by omega)]
    by_cases h1:i+1≤p∧p≤j-1
    ·rw[if_pos h1,if_pos (by omega),g _ (by omega),if_neg (by omega),if_neg (by omega)]
    ·rw[if_neg h1,g p hp];by_cases h2:p=j
     ·subst h2;rw[if_pos rfl,if_pos (by omega)];congr 1;omega
     ·rw[if_neg h2];by_cases h3:p=i
      ·subst h3;rw[if_pos rfl,if_pos (by omega)];congr 1;omega
      ·rw[if_neg h3,if_neg (by omega)]
   ·simp only[api_Span.l0];rw[if_pos (by omega),if_pos (by omega),if_pos (by omega),if_pos (by omega),if_pos (by omega),hj1,hi1];rfl
  ·refine⟨x,⟨rfl,fun p hp=> ?_⟩,Ev.step (f:=fun _=>some x) (fun k=>by simp only[api_Span.l0];rw[if_neg (by omega)]) (Ev.now _)⟩;split
   ·congr 1;omega
   ·rfl
theorem rev_ev (l:List S68) (hn:l.length<4611686018427387904):Ev (fun k=>api_Span.f k l) l.reverse:=by
 cases l with
 |nil=>exact Ev.step (f:=fun _=>some []) (fun k=>by rw[api_Span.f];simp only[api_Span.l0];rw[if_neg (by rw[w_in (by simp)];simp)]) (Ev.now _)
 | cons a l=>
  obtain⟨r,⟨h1,h2⟩,h3⟩:=rev_l0 l.length (a::l) 0 l.length hn (by simp) (by omega)
  have e:r=(a::l).reverse:=by
   apply List.ext_getElem (by simpa using h1);intro p hp1 hp2;have hp:p<(a::l).length:=by rw[←h1];exact hp1
   have:=h2 p hp;rw[if_pos ⟨by omega,by simp at hp;omega⟩] at this;simp only[List.getD_eq_getElem?_getD] at this;rw[List.getElem?_eq_getElem hp1,List.getElem?_eq_getElem (by simp at hp ⊢;omega)] at this;rw[List.getElem_reverse];simpa using this
  rw[←e];refine Ev.congr (fun k=> ?_) h3;rw[api_Span.f,w_in (by simp only[List.length_cons] at*;omega)];congr 1;simp
theorem spans_l (kind size slide t:Int) (hs:1≤size∧size≤68719476736) (hsl:1≤slide∧slide≤68719476736) (ht:TimeOk t) (n:Nat): ∀(x:List S68) (s:Int),x.length+n=64→ -1125899906842624-68719476736*65+68719476736*(n:Int)≤s→s≤t→
  Ev (fun k=>window_Spans.l0 k t x s kind size slide) (x++backL size slide t n s).reverse:=by
 unfold TimeOk at ht
 induction n with
 | zero=>
  intro x s hx h1 h2;have hw:wrap64 (s+size)=s+size:=w_in (by omega);have hrev:=rev_ev x (by omega);rw[show backL size slide t 0 s=[] from rfl,List.append_nil];by_cases hc:s+size>t
  ·refine Ev.step (fun k=> ?_) (Ev.bind hrev (Ev.now _));simp only[window_Spans.l0];rw[hw,if_pos hc,if_neg (by omega)]
  ·refine Ev.step (fun k=> ?_) (Ev.bind hrev (Ev.now _));simp only[window_Spans.l0];rw[hw,if_neg hc]
 | succ n ih=>
  intro x s hx h1 h2;have hw:wrap64 (s+size)=s+size:=w_in (by omega);by_cases hc:s+size>t
  ·rw[backL,if_pos hc];have ih:=ih (x++[⟨s,s+size⟩]) (s-slide) (by simp;omega) (by omega) (by omega);rw[List.append_assoc,List.singleton_append] at ih;refine Ev.step (fun k=> ?_) ih;simp only[window_Spans.l0];rw[hw,if_pos hc,if_pos (by omega),if_pos (by omega),w_in (show -9223372036854775808≤s-slide∧s-slide≤9223372036854775807 by omega)]
  ·have hrev:=rev_ev x (by omega);rw[backL,if_neg hc,List.append_nil];refine Ev.step (fun k=> ?_) (Ev.bind hrev (Ev.now _));simp only[window_Spans.l0];rw[hw,if_neg hc]
theorem spans_ev {kind size slide t:Int} (hf:Fit kind size slide) (ht:TimeOk t):Ev (fun k=>window_Spans.f k kind size slide t) (spansP kind size slide t):=by
 have hs1:=hf.s1;have hs2:=hf.s2;have ht' :=ht;unfold TimeOk at ht'
 have e: ∀k,window_Spans.f k kind size slide t=window_Spans.j0 k t false kind size slide:=fun k=>by
  rw[window_Spans.f,if_neg (by omega)];by_cases h2:kind=2
  ·have:=hf.sl h2;rw[if_pos h2,decide_eq_false (by omega)]
  ·rw[if_neg h2]
 refine Ev.congr e ?_;by_cases h1:kind=1
 ·have hb:=below_eq ht (n:=size) ⟨hs1,hs2⟩;have hbo:=fl_bounds t size hs1;refine Ev.step (f:=fun _=>some (spansP kind size slide t)) (fun k=> ?_) (Ev.now _);simp only[window_Spans.j0];rw[if_neg (by simp),if_pos h1,hb,Option.bind_some,w_in (show _ by omega),spansP,if_pos h1]
 ·by_cases h3:kind=3
  ·refine Ev.step (f:=fun _=>some (spansP kind size slide t)) (fun k=> ?_) (Ev.now _);simp only[window_Spans.j0];rw[if_neg (by simp),if_neg h1,if_pos h3,w_in (show _ by omega),spansP,if_neg h1,if_pos h3]
  ·have h2:kind=2:=by have:=hf.k1;have:=hf.k3;omega
   have hsl:=hf.sl h2;have hb:=below_eq ht (n:=slide) ⟨hsl.1,hsl.2.1⟩;have hbo:=fl_bounds t slide hsl.1;have hl:=spans_l kind size slide t ⟨hs1,hs2⟩ ⟨hsl.1,hsl.2.1⟩ ht 64 [] (fl t slide) rfl (by omega) (by omega);rw[List.nil_append] at hl;rw[spansP,if_neg h1,if_neg h3];refine Ev.step (fun k=> ?_) hl;simp only[window_Spans.j0];rw[if_neg (by simp),if_neg h1,if_neg h3,if_pos h2,hb,Option.bind_some]
end Go.Proofs.Ytjegeghigfmkoaa.Th
namespace Go.Proofs.Ytjegeghigfmkoaa.Th
open Go.RowKit Go.Sort Go.Proofs.YtjegeghigfmkoaaW.PrintWords Go.Proofs.YtjegeghigfmkoaaW.PrintMore Go.Proofs.Ytjegeghigfmkoaa Go.Proofs.Ytjegeghigfmkoaa.So Go.Proofs.Ytjegeghigfmkoaa.X Go.Proofs.Ytjegeghigfmkoaa.Nf
set_option linter.unusedVariables false
set_option linter.unusedSimpArgs false
def due (m:Int) (p:S70):Bool:=decide (wrap64 (p.f1.f1-1)≤m)
def outR (m:Int) (l:List S70):List S39:=(l.filter (due m)).map (fun p=>⟨p.f0,wrap64 (p.f1.f1-1),p.f2⟩)
def leftR (m:Int) (l:List S70):List S70:=l.filter (fun p=> !due m p)
theorem outR_pos {m:Int} {p:S70} (h:due m p=true) (l:List S70):outR m (p::l)=⟨p.f0,wrap64 (p.f1.f1-1),p.f2⟩::outR m l:=by simp[outR,h]
theorem outR_neg {m:Int} {p:S70} (h:due m p=false) (l:List S70):outR m (p::l)=outR m l:=by simp[outR,h]
theorem leftR_pos {m:Int} {p:S70} (h:due m p=true) (l:List S70):leftR m (p::l)=leftR m l:=by simp[leftR,h]
theorem leftR_neg {m:Int} {p:S70} (h:due m p=false) (l:List S70):leftR m (p::l)=p::leftR m l:=by simp[leftR,h]
theorem fire_l0 (m:Int) (l:List S70) (hn:l.length<4398046511000): ∀(d i:Nat) (x:List S39) (y:List S70),l.length=i+d→x.length≤i→y.length≤i→
  Ev (fun k=>window_Fire.l0 k m x y l (l.length:Int) (i:Int)) (x++outR m (l.drop i),y++leftR m (l.drop i))
 |0,i,x,y,h,h1,h2=>by
  rw[List.drop_eq_nil_of_le (by omega)];simp only[outR,leftR,List.filter_nil,List.map_nil,List.append_nil];refine Ev.step (f:=fun _=>some _) (fun k=> ?_) (Ev.now _);simp only[window_Fire.l0];rw[if_neg (by omega)]
 | d+1,i,x,y,h,h1,h2=>by
  have hlt:i<l.length:=by omega
  rw[List.drop_eq_getElem_cons hlt];by_cases hc:wrap64 (l[i].f1.f1-1)≤m
  ·have e:due m l[i]=true:=decide_eq_true hc;have ih:=fire_l0 m l hn d (i+1) (x++[⟨l[i].f0,wrap64 (l[i].f1.f1-1),l[i].f2⟩]) y (by omega) (by simp;omega) (by omega);rw[outR_pos e,leftR_pos e];rw[List.append_assoc,List.singleton_append] at ih;refine Ev.step (fun k=> ?_) ih;simp only[window_Fire.l0];rw[if_pos (by omega),if_pos (by omega),if_pos (by omega),rd46_at hlt,if_pos hc,if_pos (by omega),step_i hlt (by omega)]
  ·have e:due m l[i]=false:=decide_eq_false hc;have ih:=fire_l0 m l hn d (i+1) x (y++[l[i]]) (by omega) (by omega) (by simp;omega);rw[outR_neg e,leftR_neg e];rw[List.append_assoc,List.singleton_append] at ih;refine Ev.step (fun k=> ?_) ih;simp only[window_Fire.l0];rw[if_pos (by omega),if_pos (by omega),if_pos (by omega),rd46_at hlt,if_neg hc,if_pos (by omega),step_i hlt (by omega)]
theorem fire_ev (m:Int) (l:List S70) (hn:l.length<4398046511000):Ev (fun k=>window_Fire.f k l m) (outR m (sortP l),leftR m (sortP l)):=by
 have h:=fire_l0 m (sortP l) (by rw[sortP_len];exact hn) (sortP l).length 0 [] [] (by omega) (by simp) (by simp);refine Ev.congr (fun k=> ?_) h;rw[window_Fire.f,window_Sort.f,if_pos (by omega)];rfl
end Go.Proofs.Ytjegeghigfmkoaa.Th
namespace Go.Proofs.Ytjegeghigfmkoaa.Th
open Go.RowKit Go.Sort Go.Proofs.YtjegeghigfmkoaaW.PrintWords Go.Proofs.YtjegeghigfmkoaaW.PrintMore Go.Proofs.Ytjegeghigfmkoaa Go.Proofs.Ytjegeghigfmkoaa.So Go.Proofs.Ytjegeghigfmkoaa.X Go.Proofs.Ytjegeghigfmkoaa.Nf
set_option linter.unusedVariables false
set_option linter.unusedSimpArgs false
theorem no_hit_join {a:Int} {o p x:S70} (h1: ¬hitK 3 o p) (h2: ¬hitK 3 o x) (h:hitK 3 p x): ¬hitK 3 o (joinP a p x):=by
 unfold hitK at*
 rw[if_pos rfl,hitP_iff] at*
 show ¬(p.f0=o.f0∧mn p.f1.f0 x.f1.f0<o.f1.f1∧o.f1.f0<mx p.f1.f1 x.f1.f1∧mn p.f1.f0 x.f1.f0<mx p.f1.f1 x.f1.f1∧o.f1.f0<o.f1.f1);unfold mn mx
 (repeat' split)<;>omega
theorem absorbF_no (a:Int) (o:S70): ∀(k:Nat) (p:S70) (l:List S70),¬hitK 3 o p→(∀x ∈ l,¬hitK 3 o x)→ ¬hitK 3 o (absorbF a k p l).1
 |0,p,l,h1,h2=>h1
 | k+1,p,l,h1,h2=>by
  rw[absorbF];cases hf:l.findIdx? (hitP p) with
  |none=>exact h1
  |some i=>
   obtain⟨hi,hh,_⟩:=List.findIdx?_eq_some_iff_getElem.1 hf;refine absorbF_no a o k (joinP a p (l.getD i z70)) (l.eraseIdx i) ?_ (fun x hx=>h2 x ((List.eraseIdx_sublist l i).subset hx));rw[getD_at hi];exact no_hit_join h1 (h2 _ (List.getElem_mem hi)) (by unfold hitK;rw[if_pos rfl];exact hh)
theorem joinF_rs {a:Int} (ha:aggOk a=true): ∀(k:Nat) (rest out:List S70),rest.length≤k→NK 3 out→(∀o ∈ out,∀x ∈ rest,¬hitK 3 o x)→
  RSk 3 a (out++rest) (joinF a k rest out)∧NK 3 (joinF a k rest out)
 |0,rest,out,hk,hN,hX=>by
  have:rest=[]:=List.eq_nil_of_length_eq_zero (by omega);subst this;rw[List.append_nil];exact⟨.done (.refl _),hN⟩
 |k+1,[],out,hk,hN,hX=>by rw[List.append_nil];exact⟨.done (.refl _),hN⟩
 | k+1,p::rest,out,hk,hN,hX=>by
  obtain⟨h1,h2,h3,h4⟩:=absorb_rs a p rest;have hlen:=h3.length_le;have hnew: ∀o ∈ out,¬hitK 3 o (absorbP a p rest).1:=fun o ho=>absorbF_no a o _ p rest (hX o ho p (by simp)) (fun x hx=>hX o ho x (by simp[hx]))
  have hN2:NK 3 (out++[(absorbP a p rest).1]):=by
   unfold NK Normal;rw[List.pairwise_append];exact⟨hN,List.pairwise_singleton _ _,fun o ho x hx=>by rw[List.mem_singleton.1 hx];exact hnew o ho⟩
  obtain⟨h5,h6⟩:=joinF_rs ha k (absorbP a p rest).2 (out++[(absorbP a p rest).1]) (by simp at hk;omega) hN2 (fun o ho x hx=>by
   rcases List.mem_append.1 ho with ho|ho
   ·exact hX o ho x (by simp[h3.subset hx])
   ·rw[List.mem_singleton.1 ho];exact h2 x hx)
  rw[List.append_assoc,List.singleton_append] at h5;exact⟨RS.trans (RS.app2 h1 out) h5,h6⟩
theorem join_is {a:Int} (ha:aggOk a=true) (l:List S70):Is 3 a l (sortP (joinF a l.length l [])):=by
 obtain⟨h1,h2⟩:=joinF_rs ha l.length l [] (Nat.le_refl _) List.Pairwise.nil (fun o ho=>absurd ho (by simp));exact Is.sort ha h1 h2
end Go.Proofs.Ytjegeghigfmkoaa.Th
namespace Go.Proofs.Ytjegeghigfmkoaa.Th
open Go.RowKit Go.Sort Go.Proofs.YtjegeghigfmkoaaW.PrintWords Go.Proofs.YtjegeghigfmkoaaW.PrintMore Go.Proofs.Ytjegeghigfmkoaa Go.Proofs.Ytjegeghigfmkoaa.So Go.Proofs.Ytjegeghigfmkoaa.X Go.Proofs.Ytjegeghigfmkoaa.Nf
set_option linter.unusedVariables false
set_option linter.unusedSimpArgs false
theorem rs_all {kind a:Int} {P:S70→Prop} (hj: ∀x y,P x→P y→P (joinP a x y)) {x p:List S70} (h:RSk kind a x p):(∀y ∈ x,P y)→ ∀q ∈ p,P q:=by
 induction h with
 |done h=>exact fun hx q hq=>hx q (h.symm.subset hq)
 |step h1 h2 ih=>
  intro hx;refine ih (fun y hy=> ?_);obtain⟨u,v,r,e1,e2,e3⟩:=h1.out;have hm:=e3.subset hy;rcases List.mem_cons.1 hm with rfl|hm
  ·exact hj u v (hx u (e1.symm.subset (by simp))) (hx v (e1.symm.subset (by simp)))
  ·exact hx y (e1.symm.subset (by simp[hm]))
theorem ev_unique {α:Type} {g:Nat→Option α} {a b:α} (h1:Ev g a) (h2:Ev g b):a=b:=by
 obtain⟨K1,h1⟩:=h1;obtain⟨K2,h2⟩:=h2;have e1:=h1 (max K1 K2) (Nat.le_max_left _ _);have e2:=h2 (max K1 K2) (Nat.le_max_right _ _);rw[e1] at e2;exact Option.some.inj e2
theorem below_sp (t n:Int) (hn:1≤n): ∃v,window_below.f t n=some v:=by
 unfold window_below.f;rw[if_neg (by omega)];split<;>exact⟨_,rfl⟩
theorem spans_any_l (kind size slide t:Int) (n:Nat): ∀(x:List S68) (s:Int),x.length+n=64→Sp (fun r=>r.length≤64) (fun k=>window_Spans.l0 k t x s kind size slide):=by
 induction n with
 | zero=>
  intro x s hx;have hrev:=rev_ev x (by omega);refine⟨x.reverse,by simp;omega,?_⟩;by_cases hc:wrap64 (s+size)>t
  ·refine Ev.step (fun k=> ?_) (Ev.bind hrev (Ev.now _));simp only[window_Spans.l0];rw[if_pos hc,if_neg (by omega)]
  ·refine Ev.step (fun k=> ?_) (Ev.bind hrev (Ev.now _));simp only[window_Spans.l0];rw[if_neg hc]
 | succ n ih=>
  intro x s hx;by_cases hc:wrap64 (s+size)>t
  ·obtain⟨r,hr,hev⟩:=ih (x++[⟨s,wrap64 (s+size)⟩]) (wrap64 (s-slide)) (by simp;omega);refine⟨r,hr,Ev.step (fun k=> ?_) hev⟩;simp only[window_Spans.l0];rw[if_pos hc,if_pos (by omega),if_pos (by omega)]
  ·have hrev:=rev_ev x (by omega);refine⟨x.reverse,by simp;omega,Ev.step (fun k=> ?_) (Ev.bind hrev (Ev.now _))⟩;simp only[window_Spans.l0];rw[if_neg hc]
theorem spans_any {kind size slide:Int} (hf:Fit kind size slide) (t:Int):Sp (fun r=>r.length≤64) (fun k=>window_Spans.f k kind size slide t):=by
 have hs1:=hf.s1
 have e: ∀k,window_Spans.f k kind size slide t=window_Spans.j0 k t false kind size slide:=fun k=>by
  rw[window_Spans.f,if_neg (by omega)];by_cases h2:kind=2
  ·have:=hf.sl h2;rw[if_pos h2,decide_eq_false (by omega)]
  ·rw[if_neg h2]
 by_cases h1:kind=1
 ·obtain⟨v,hv⟩:=below_sp t size hs1;refine⟨[⟨v,wrap64 (v+size)⟩],by simp,Ev.congr e (Ev.step (f:=fun _=>some _) (fun k=> ?_) (Ev.now _))⟩;simp only[window_Spans.j0];rw[if_neg (by simp),if_pos h1,hv,Option.bind_some]
 ·by_cases h3:kind=3
  ·refine⟨[⟨t,wrap64 (t+size)⟩],by simp,Ev.congr e (Ev.step (f:=fun _=>some _) (fun k=> ?_) (Ev.now _))⟩;simp only[window_Spans.j0];rw[if_neg (by simp),if_neg h1,if_pos h3]
  ·have h2:kind=2:=by have:=hf.k1;have:=hf.k3;omega
   obtain⟨v,hv⟩:=below_sp t slide (hf.sl h2).1;obtain⟨r,hr,hev⟩:=spans_any_l kind size slide t 64 [] v rfl;refine⟨r,hr,Ev.congr e (Ev.step (fun k=> ?_) hev)⟩;simp only[window_Spans.j0];rw[if_neg (by simp),if_neg h1,if_neg h3,if_pos h2,hv,Option.bind_some]
noncomputable def spX {kind size slide:Int} (hf:Fit kind size slide) (t:Int):List S68:=Classical.choose (spans_any hf t)
theorem ones_all {a:Int} {sp:Int→List S68} {rs:List S39} {P:S70→Prop} (h: ∀r ∈ rs,∀s ∈ sp r.f1,P (one a r.f0 r.f2 s)): ∀x ∈ ones a sp rs,P x:=by
 intro x hx;unfold ones at hx;obtain⟨r,hr,h2⟩:=List.mem_flatMap.1 hx;obtain⟨s,hs,rfl⟩:=List.mem_map.1 h2;exact h r hr s hs
end Go.Proofs.Ytjegeghigfmkoaa.Th
namespace Go.Proofs.Ytjegeghigfmkoaa.Th
open Go.RowKit Go.Sort Go.Proofs.YtjegeghigfmkoaaW.PrintWords Go.Proofs.YtjegeghigfmkoaaW.PrintMore Go.Proofs.Ytjegeghigfmkoaa Go.Proofs.Ytjegeghigfmkoaa.So Go.Proofs.Ytjegeghigfmkoaa.X Go.Proofs.Ytjegeghigfmkoaa.Nf
set_option linter.unusedVariables false
set_option linter.unusedSimpArgs false
theorem back_stop (size slide t:Int) (m:Nat): ∀(n:Nat) (s:Int),s+size- (n:Int)*slide≤t→backL size slide t (n+m) s=backL size slide t n s
 | 0,s,h=>by
  have h' : ¬s+size>t:=by simp at h;omega
  rw[Nat.zero_add];cases m with
  |zero=>rfl
  |succ m=>
   show(if s+size>t then _ else _)=_;rw[if_neg h'];rfl
 |n+1,s,h=>by
  rw[show n+1+m=(n+m)+1 by omega,backL,backL];by_cases hc:s+size>t
  ·rw[if_pos hc,if_pos hc,back_stop size slide t m n (s-slide) (by rw[Int.natCast_succ,Int.add_mul,Int.one_mul] at h;omega)]
  ·rw[if_neg hc,if_neg hc]
theorem rspans_l1 (x:List S68) (hx:x.length≤200): ∀(n:Nat) (y:List S68),n≤x.length→y.length+n≤400→Ev (fun k=>leatref11_Spans.l1 k x y ((n:Int)-1)) (y++(x.take n).reverse)
 |0,y,hn,hy=>by
  rw[List.take_zero,List.reverse_nil,List.append_nil];refine Ev.step (f:=fun _=>some y) (fun k=> ?_) (Ev.now _);simp only[leatref11_Spans.l1];rw[if_neg (by omega)]
 |n+1,y,hn,hy=>by
  have hlt:n<x.length:=by omega
  have ih:=rspans_l1 x hx n (y++[x[n]]) (by omega) (by simp;omega);rw[←List.take_append_getElem hlt,List.reverse_append];rw[List.append_assoc] at ih;refine Ev.step (fun k=> ?_) ih;simp only[leatref11_Spans.l1];rw[if_pos (by omega),if_pos (by omega),if_pos (by omega),if_pos (by omega),show((n+1:Nat):Int)-1=(n:Int) by omega,rd31_at hlt,w_in (by omega)]
theorem rspans_j1 (x:List S68) (hx:x.length≤200):Ev (fun k=>leatref11_Spans.j1 k x) x.reverse:=by
 have h:=rspans_l1 x hx x.length [] (Nat.le_refl _) (by simp;omega);rw[List.take_length,List.nil_append] at h;refine Ev.step (fun k=> ?_) h;simp only[leatref11_Spans.j1];rw[w_in (by omega)]
theorem rspans_l (kind size slide t:Int) (hs:1≤size∧size≤68719476736) (hsl:1≤slide∧slide≤68719476736) (ht:TimeOk t) (n:Nat): ∀(x:List S68) (s:Int),x.length+n=200→ -1125899906842624-68719476736*201+68719476736*(n:Int)≤s→s≤t→
  Ev (fun k=>leatref11_Spans.l0 k t x s kind size slide) (x++backL size slide t n s).reverse:=by
 unfold TimeOk at ht
 induction n with
 | zero=>
  intro x s hx h1 h2;have hw:wrap64 (s+size)=s+size:=w_in (by omega);have hrev:=rspans_j1 x (by omega);rw[show backL size slide t 0 s=[] from rfl,List.append_nil];by_cases hc:s+size>t
  ·refine Ev.step (fun k=> ?_) hrev;simp only[leatref11_Spans.l0];rw[hw,if_pos hc,if_neg (by omega)]
  ·refine Ev.step (fun k=> ?_) hrev;simp only[leatref11_Spans.l0];rw[hw,if_neg hc]
 | succ n ih=>
  intro x s hx h1 h2;have hw:wrap64 (s+size)=s+size:=w_in (by omega);by_cases hc:s+size>t
  ·rw[backL,if_pos hc];have ih:=ih (x++[⟨s,s+size⟩]) (s-slide) (by simp;omega) (by omega) (by omega);rw[List.append_assoc,List.singleton_append] at ih;refine Ev.step (fun k=> ?_) ih;simp only[leatref11_Spans.l0];rw[hw,if_pos hc,if_pos (by omega),if_pos (by omega),w_in (show -9223372036854775808≤s-slide∧s-slide≤9223372036854775807 by omega)]
  ·have hrev:=rspans_j1 x (by omega);rw[backL,if_neg hc,List.append_nil];refine Ev.step (fun k=> ?_) hrev;simp only[leatref11_Spans.l0];rw[hw,if_neg hc]
theorem rspans_ev {kind size slide t:Int} (hf:Fit kind size slide) (ht:TimeOk t):Ev (fun k=>leatref11_Spans.f k kind size slide t) (spansP kind size slide t):=by
 have hs1:=hf.s1;have hs2:=hf.s2;have ht' :=ht;unfold TimeOk at ht';by_cases h1:kind=1
 ·have hb:=floor_eq ht (n:=size) ⟨hs1,hs2⟩;have hbo:=fl_bounds t size hs1;refine Ev.congr (g:=fun k=>leatref11_Spans.f k kind size slide t) (f:=fun _=>some (spansP kind size slide t)) (fun k=> ?_) (Ev.now _);rw[leatref11_Spans.f,if_pos h1,hb,Option.bind_some,w_in (show _ by omega),spansP,if_pos h1]
 ·by_cases h3:kind=3
  ·refine Ev.congr (g:=fun k=>leatref11_Spans.f k kind size slide t) (f:=fun _=>some (spansP kind size slide t)) (fun k=> ?_) (Ev.now _);rw[leatref11_Spans.f,if_neg h1,if_pos h3,w_in (show _ by omega),spansP,if_neg h1,if_pos h3]
  ·have h2:kind=2:=by have:=hf.k1;have:=hf.k3;omega
   have hsl:=hf.sl h2;have hb:=floor_eq ht (n:=slide) ⟨hsl.1,hsl.2.1⟩;have hbo:=fl_bounds t slide hsl.1;have hl:=rspans_l kind size slide t ⟨hs1,hs2⟩ ⟨hsl.1,hsl.2.1⟩ ht 200 [] (fl t slide) rfl (by omega) (by omega);rw[List.nil_append,show(200:Nat)=64+136 from rfl,back_stop size slide t 136 64 _ (by omega)] at hl;rw[spansP,if_neg h1,if_neg h3];refine Ev.congr (fun k=> ?_) hl;rw[leatref11_Spans.f,if_neg h1,if_neg h3,hb,Option.bind_some]
end Go.Proofs.Ytjegeghigfmkoaa.Th
namespace Go.Proofs.Ytjegeghigfmkoaa.Th
open Go.RowKit Go.Sort Go.Proofs.YtjegeghigfmkoaaW.PrintWords Go.Proofs.YtjegeghigfmkoaaW.PrintMore Go.Proofs.Ytjegeghigfmkoaa Go.Proofs.Ytjegeghigfmkoaa.So Go.Proofs.Ytjegeghigfmkoaa.X Go.Proofs.Ytjegeghigfmkoaa.Nf
set_option linter.unusedVariables false
set_option linter.unusedSimpArgs false
theorem less_eq (x y:S70):leatref11_less.f x.f0 x.f1.f0 x.f1.f1 x.f2 y.f0 y.f1.f0 y.f1.f1 y.f2=some (ltOf cmpO x y):=by
 have h:=ltO_iff x y
 have key: ∀(c:Prop) [Decidable c],(ltOf cmpO x y=true↔c)→decide c=ltOf cmpO x y:=by
  intro c _ hc;by_cases h1:c
  ·rw[decide_eq_true h1,hc.2 h1]
  ·rw[decide_eq_false h1];cases h2:ltOf cmpO x y with
   |false=>rfl
   |true=>exact absurd (hc.1 h2) h1
 unfold leatref11_less.f;by_cases h0:x.f0=y.f0
 ·rw[if_pos h0];by_cases h1:x.f1.f0=y.f1.f0
  ·rw[if_pos h1];by_cases h2:x.f1.f1=y.f1.f1
   ·rw[if_pos h2,key _ (h.trans (by omega))]
   ·rw[if_neg h2,key _ (h.trans (by omega))]
  ·rw[if_neg h1,key _ (h.trans (by omega))]
 ·rw[if_neg h0,key _ (h.trans (by omega))]
def ins (out:List S70) (p:Nat) (e:S70):List S70:=out.take p++e::out.drop p
theorem ins_perm (out:List S70) (p:Nat) (e:S70):(ins out p e).Perm (e::out):=by
 unfold ins;have:=List.perm_middle (l₁:=out.take p) (l₂:=out.drop p) (a:=e);rw[List.take_append_drop] at this;exact this
theorem sorted_le {l:List S70} (h:Sorted l) {i j:Nat} (hi:i<l.length) (hj:j<l.length) (hij:i≤j):leO l[i] l[j]=true:=by
 rcases Nat.lt_or_ge i j with h1|h1
 ·exact List.pairwise_iff_getElem.1 h i j hi hj h1
 ·obtain rfl:i=j:=by omega
  have:=leO_total l[i] l[i];simpa using this
theorem ins_sorted {out:List S70} (hs:Sorted out) {p:Nat} (hp:p≤out.length) {e:S70} (h1: ∀j (h:j<out.length),j<p→leO out[j] e=true) (h2: ∀j (h:j<out.length),p≤j→leO e out[j]=true):Sorted (ins out p e):=by
 unfold ins Sorted;rw[List.pairwise_append];refine⟨hs.sublist (List.take_sublist _ _),List.pairwise_cons.2 ⟨fun y hy=> ?_,hs.sublist (List.drop_sublist _ _)⟩,fun x hx y hy=> ?_⟩
 ·obtain⟨j,hj,rfl⟩:=List.getElem_of_mem hy;rw[List.getElem_drop];exact h2 _ _ (by omega)
 ·obtain⟨i,hi,rfl⟩:=List.getElem_of_mem hx;rw[List.getElem_take];rw[List.length_take] at hi;rcases List.mem_cons.1 hy with rfl|hy
  ·exact h1 _ _ (by omega)
  ·obtain⟨j,hj,rfl⟩:=List.getElem_of_mem hy;rw[List.getElem_drop];exact sorted_le hs _ _ (by omega)
theorem l2_ev (l out:List S70) (i:Nat) (hi:i<l.length) (hl:l.length<4398046511000) (ho:out.length≤i) (p:Nat) (hp:p≤out.length) {r:List S70}
  (hr:Ev (fun k=>leatref11_Sort.l0 k l (ins out p l[i]) ((i+1:Nat):Int)) r): ∀(d q:Nat) (y:List S70),q=p+d→q≤out.length→y.length=out.length+1→
  (∀t (h:t<y.length) (h2:t<out.length),t<q→y[t]=out[t])→(∀t (h:t<y.length) (h2:t-1<out.length),q<t→y[t]=out[t-1])→
  Ev (fun k=>leatref11_Sort.l2 k l y (i:Int) (p:Int) (q:Int)) r
 | 0, q,y,hq,hqo,hy,h1,h2=>by
  have e:y.set p l[i]=ins out p l[i]:=by
   show y.set p l[i]=out.take p++l[i]::out.drop p;apply List.ext_getElem
   ·simp;omega
   ·intro t ht1 ht2;rw[List.length_set] at ht1;rw[List.getElem_set];by_cases h3:p=t
    ·subst h3;rw[if_pos rfl,List.getElem_append_right (by simp;omega)];simp[Nat.min_eq_left hp]
    ·rw[if_neg h3];by_cases h4:t<p
     ·rw[List.getElem_append_left (by simp;omega),List.getElem_take];exact h1 t ht1 (by omega) (by omega)
     ·rw[List.getElem_append_right (by simp;omega)];have h5:t- (out.take p).length=(t-p-1)+1:=by rw[List.length_take];omega
      simp only[h5,List.getElem_cons_succ,List.getElem_drop];rw[h2 t ht1 (by omega) (by omega)];congr 1;omega
  refine Ev.step (fun k=> ?_) hr;simp only[leatref11_Sort.l2];rw[if_neg (by omega),if_pos (by omega),if_pos (by omega),if_pos (by omega),if_pos (by omega),rd46_at hi,step_i hi (by omega),Int.toNat_natCast];show leatref11_Sort.l0 k l (y.set p l[i]) _=_;rw[e]
 | d+1,q,y,hq,hqo,hy,h1,h2=>by
  have hw:wrap64 ((q:Int)-1)=((q-1:Nat):Int):=by rw[w_in (by omega)];omega
  have hq1:q-1<y.length:=by omega
  refine Ev.step (fun k=> ?_) (l2_ev l out i hi hl ho p hp hr d (q-1) (y.set q y[q-1]) (by omega) (by omega) (by simpa using hy) (fun t h h3 h4=> ?_) (fun t h h3 h4=> ?_))
  ·simp only[leatref11_Sort.l2];rw[if_pos (by omega),hw,if_pos (by omega),if_pos (by omega),if_pos (by omega),if_pos (by omega),rd46_at hq1,Int.toNat_natCast]
  ·rw[List.length_set] at h;rw[List.getElem_set,if_neg (by omega)];exact h1 t h h3 (by omega)
  ·rw[List.length_set] at h;rw[List.getElem_set];by_cases h5:q=t
   ·subst h5;rw[if_pos rfl];exact h1 (q-1) hq1 h3 (by omega)
   ·rw[if_neg h5];exact h2 t h h3 (by omega)
theorem l1_ev (l out:List S70) (hs:Sorted out) (i:Nat) (hi:i<l.length) (hl:l.length<4398046511000) (ho:out.length≤i) {r:List S70}
  (hr: ∀p,p≤out.length→Sorted (ins out p l[i])→Ev (fun k=>leatref11_Sort.l0 k l (ins out p l[i]) ((i+1:Nat):Int)) r): ∀(d lo hh:Nat),hh-lo≤d→lo≤hh→hh≤out.length→
  (∀j (h:j<out.length),j<lo→leO out[j] l[i]=true)→(∀j (h:j<out.length),hh≤j→leO l[i] out[j]=true)→
  Ev (fun k=>leatref11_Sort.l1 k l out (i:Int) (lo:Int) (hh:Int)) r
 | d,lo,hh,hd,hlh,hho,h1,h2=>by
  by_cases hc:lo<hh
  ·match d,hd with
   |0,hd=>omega
   | d+1,hd=>
    have hm:wrap64 (Int.tdiv (wrap64 ((lo:Int)+(hh:Int))) 2)=(((lo+hh)/ 2:Nat):Int):=by
     rw[w_in (show -9223372036854775808≤(lo:Int)+hh∧(lo:Int)+hh≤9223372036854775807 by omega),Int.tdiv_eq_ediv_of_nonneg (by omega),w_in (by omega)];omega
    have hml:(lo+hh)/ 2<out.length:=by omega
    have hcode: ∀(g:Nat→Option (List S70)),(∀k,g k=if ltOf cmpO l[i] out[(lo+hh)/ 2]=true then leatref11_Sort.l1 k l out (i:Int) (lo:Int) (((lo+hh)/ 2:Nat):Int) else leatref11_Sort.l1 k l out (i:Int) (((lo+hh)/ 2+1:Nat):Int) (hh:Int))→Ev g r→Ev (fun k=>leatref11_Sort.l1 k l out (i:Int) (lo:Int) (hh:Int)) r:=by
     intro g hg hev;refine Ev.step (f:=g) (fun k=> ?_) hev;simp only[leatref11_Sort.l1];rw[if_pos (by omega),if_pos (by omega),if_pos (by omega),hm,if_pos (by omega),if_pos (by omega),rd46_at hi,rd46_at hml,less_eq,Option.bind_some,hg,w_in (show _ by omega)];rfl
    cases hlt:ltOf cmpO l[i] out[(lo+hh)/ 2] with
    |true=>
     refine hcode _ (fun k=>by rw[if_pos hlt]) (l1_ev l out hs i hi hl ho hr d lo ((lo+hh)/ 2) (by omega) (by omega) (by omega) h1 (fun j hj h3=> ?_));refine leO_trans _ _ _ ?_ (sorted_le hs hml hj h3);rw[leO_iff];cases h4:ltOf cmpO out[(lo+hh)/ 2] l[i] with
     |false=>rfl
     |true=>have:=swoO.trans _ _ _ hlt h4;rw[swoO.irrefl] at this;cases this
    |false=>
     refine hcode _ (fun k=>by rw[if_neg (by rw[hlt];simp)]) (l1_ev l out hs i hi hl ho hr d ((lo+hh)/ 2+1) hh (by omega) (by omega) hho (fun j hj h3=> ?_) h2);exact leO_trans _ _ _ (sorted_le hs hj hml (by omega)) ((leO_iff _ _).2 hlt)
  ·have he:lo=hh:=by omega
   subst he;have hsrt:=ins_sorted hs hho h1 h2;have hz:(out++[(⟨0,(⟨0,0⟩:S68),0⟩:S70)]).length=out.length+1:=by simp
   have h:=l2_ev l out i hi hl ho lo hho (hr lo hho hsrt) (out.length-lo) out.length (out++[⟨0,⟨0,0⟩,0⟩]) (by omega) (Nat.le_refl _) hz (fun t ht h3 h4=>by rw[List.getElem_append_left h3]) (fun t ht h3 h4=>by rw[hz] at ht;omega);refine Ev.step (fun k=> ?_) h;simp only[leatref11_Sort.l1];rw[if_neg (by omega),if_pos (by omega),Option.bind_some,hz,w_in (by omega)];congr 1;omega
theorem rsort_l0 (l:List S70) (hl:l.length<4398046511000): ∀(d i:Nat),l.length=i+d→Ev (fun k=>leatref11_Sort.l0 k l (sortP (l.take i)) (i:Int)) (sortP l)
 |0,i,h=>by
  rw[List.take_of_length_le (by omega)];refine Ev.step (f:=fun _=>some (sortP l)) (fun k=> ?_) (Ev.now _);simp only[leatref11_Sort.l0];rw[if_neg (by omega)]
 | d+1,i,h=>by
  have hi:i<l.length:=by omega
  have hlen:(sortP (l.take i)).length=i:=by rw[sortP_len,List.length_take];omega
  have h1:=l1_ev l (sortP (l.take i)) (sortP_sorted _) i hi hl (by omega) (r:=sortP l) (fun p hp hsrt=>by
   have e:ins (sortP (l.take i)) p l[i]=sortP (l.take (i+1)):=by
    refine sorted_unique ?_ hsrt (sortP_sorted _);refine(ins_perm _ _ _).trans (((sortP_perm _).cons _).trans (List.Perm.trans ?_ (sortP_perm _).symm));rw[←List.take_append_getElem hi];exact(List.perm_append_singleton _ _).symm
   rw[e];exact rsort_l0 l hl d (i+1) (by omega)) (sortP (l.take i)).length 0 (sortP (l.take i)).length (by omega) (by omega) (Nat.le_refl _) (fun j hj h=>absurd h (by omega)) (fun j hj h=>by omega)
  refine Ev.step (fun k=> ?_) h1;simp only[leatref11_Sort.l0];rw[if_pos (by omega)];rfl
theorem rsort_ev (l:List S70) (hl:l.length<4398046511000):Ev (fun k=>leatref11_Sort.f k l) (sortP l):=by
 have h:=rsort_l0 l hl l.length 0 (by omega);have e:sortP (l.take 0)=[]:=by rw[List.take_zero];exact sortP_same List.Pairwise.nil
 rw[e] at h;exact Ev.congr (fun k=>by rw[leatref11_Sort.f];rfl) h
theorem rmerge_ev {a:Int} (ha:aggOk a=true) (x y:Int):Ev (fun k=>leatref10_Merge.f k a x y) (aggMerge a x y):=by
 have ha' :1≤a∧a≤5:=by simpa[aggOk] using ha
 have hm:aggMerge a x y=aggBoth a x y:=by unfold aggMerge;rw[if_pos ha]
 have key: ∀b:Bool,b=(a==1||a==2)→Ev (fun k=>leatref10_Merge.j0 k x y a b) (aggMerge a x y):=by
  intro b hb;refine Ev.step (f:=fun _=>some (aggBoth a x y)) (fun k=> ?_) (ev_now hm.symm);simp only[leatref10_Merge.j0];unfold aggBoth;by_cases h1:a=1∨a=2
  ·have:b=true:=by rw[hb];simpa using h1
   rw[if_pos this,if_pos h1]
  ·have: ¬b=true:=by rw[hb];simpa using h1
   rw[if_neg this,if_neg h1];by_cases h3:a=3
   ·rw[if_pos h3,if_pos h3];unfold mn;congr 1;omega
   ·rw[if_neg h3,if_neg h3];by_cases h4:a=4
    ·rw[if_pos h4,if_pos h4];unfold mx;congr 1;omega
    ·rw[if_neg h4,if_neg h4,if_pos (by omega),if_pos (by omega)]
 by_cases h1:a=1
 ·exact Ev.congr (fun k=>by rw[leatref10_Merge.f,if_pos h1]) (key (a==1) (by simp[h1]))
 ·exact Ev.congr (fun k=>by rw[leatref10_Merge.f,if_neg h1]) (key (a==2) (by simp[h1]))
def Proper (p:S70):Prop:=p.f1.f0<p.f1.f1
theorem proper_join {a:Int} {p x:S70} (h1:Proper p) (h2:Proper x):Proper (joinP a p x):=by
 unfold Proper at*
 show mn _ _<mx _ _;unfold mn mx
 (repeat' split)<;>omega
theorem overlap_eq {p x:S70} (h1:Proper p) (h2:Proper x) (hk:x.f0=p.f0): ∃b,leatref11_overlap.f x.f1.f0 x.f1.f1 p.f1.f0 p.f1.f1=some b∧(b=true↔hitK 3 p x):=by
 unfold Proper at*
 unfold leatref11_overlap.f hitK;rw[if_pos rfl,hitP_iff];by_cases h:x.f1.f0<p.f1.f1
 ·rw[if_pos h];exact⟨_,rfl,by rw[decide_eq_true_iff];omega⟩
 ·rw[if_neg h];exact⟨_,rfl,by simp;omega⟩
structure Mr (a:Int) (p:S70) (l r:List S70):Prop where
 rs:RSk 3 a (p::l) r
 nk:NK 3 l→NK 3 r
 st:Sorted r
 pr: ∀x ∈ r,Proper x
theorem merge_pass {a:Int} (ha:aggOk a=true) (p0:S70) (l0:List S70): ∀(n:Nat) (l:List S70) (p:S70),l.length≤n→l.length<4398046510000→Proper p→(∀x ∈ l,Proper x)→RSk 3 a (p0::l0) (p::l)→l.Sublist l0→
  Sp (Mr a p0 l0) (fun k=>leatref11_merge.l0 k a l p.f0 p.f1.f0 p.f1.f1 p.f2)
 | n, l,p,hn,hl,hp,hpl,hrs,hsub=>by
  have loop: ∀(d i:Nat) (x7:List S70) (b:Bool) (q:S70),l.length=i+d→x7.length≤i→x7.Sublist (l.take i)→Proper q→q.f0=p.f0→RSk 3 a (p0::l0) (q::x7++l.drop i)→
    (b=false→q=p∧x7=l.take i∧ ∀x ∈ x7,¬hitK 3 p x)→(b=true→x7.length<i)→
    Sp (Mr a p0 l0) (fun k=>leatref11_merge.l1 k a l x7 b (i:Int) q.f0 q.f1.f0 q.f1.f1 q.f2):=by
   intro d
   induction d with
   | zero=>
    intro i x7 b q h h1 h2 h3 h4 h5 h6 h7;rw[List.drop_eq_nil_of_le (by omega),List.append_nil] at h5;rw[List.take_of_length_le (by omega)] at h2;cases b with
    | true=>
     have hlt:=h7 rfl
     match n,hn with
     |0,hn=>omega
     |n+1,hn=>
      obtain⟨r,hr,hev⟩:=merge_pass ha p0 l0 n x7 q (by omega) (by omega) h3 (fun x hx=>hpl x (h2.subset hx)) h5 (h2.trans hsub);refine⟨r,hr,Ev.step (fun k=> ?_) hev⟩;simp only[leatref11_merge.l1];rw[if_neg (by omega)];exact if_pos trivial
    | false=>
     obtain⟨rfl,h8,h9⟩:=h6 rfl;have hs:=rsort_ev (x7++[q]) (by simp;omega);have hperm:(q::x7).Perm (x7++[q]):=(List.perm_append_singleton _ _).symm;refine⟨sortP (x7++[q]),⟨h5.perm (.refl _) (hperm.trans (sortP_perm _).symm),fun hN=> ?_,sortP_sorted _,fun x hx=> ?_⟩,Ev.step (fun k=> ?_) (Ev.bind hs (Ev.now _))⟩
     ·have:NK 3 (q::x7):=List.pairwise_cons.2 ⟨h9,hN.sublist (h2.trans hsub)⟩;exact Normal.perm (mgK 3 ha) this (hperm.trans (sortP_perm _).symm)
     ·have hm:=(sortP_perm _).subset hx;rcases List.mem_append.1 hm with hm|hm
      ·exact hpl x (h2.subset hm)
      ·rw[List.mem_singleton.1 hm];exact h3
     ·simp only[leatref11_merge.l1];rw[if_neg (by omega),if_neg (by simp),if_pos (by omega)]
   | succ d ih=>
    intro i x7 b q h h1 h2 h3 h4 h5 h6 h7;have hlt:i<l.length:=by omega
    have hpx:=hpl _ (List.getElem_mem hlt);have hw:=step_i hlt (by omega);rw[List.drop_eq_getElem_cons hlt] at h5;have htk:l.take (i+1)=l.take i++[l[i]]:=(List.take_append_getElem hlt).symm
    -- not taken
    have skip: ¬hitK 3 q l[i]→Sp (Mr a p0 l0) (fun k=>leatref11_merge.l1 k a l (x7++[l[i]]) b ((i+1:Nat):Int) q.f0 q.f1.f0 q.f1.f1 q.f2):=by
     intro hno;refine ih (i+1) (x7++[l[i]]) b q (by omega) (by simp;omega) (by rw[htk];exact h2.append_right _) h3 h4 (by simpa using h5) (fun hb=> ?_) (fun hb=>by have:=h7 hb;simp;omega);obtain⟨rfl,e2,e3⟩:=h6 hb;refine⟨rfl,by rw[htk,e2],fun x hx=> ?_⟩;rcases List.mem_append.1 hx with hx|hx
     ·exact e3 x hx
     ·rw[List.mem_singleton.1 hx];exact hno
    by_cases hk:l[i].f0=q.f0
    ·obtain⟨v,hov,hiff⟩:=overlap_eq h3 hpx hk;by_cases hh:hitK 3 q l[i]
     ·obtain⟨r,hr,hev⟩:=ih (i+1) x7 true (joinP a q l[i]) (by omega) (by omega) (by rw[htk];exact h2.trans (List.sublist_append_left _ _)) (proper_join h3 hpx) h4 (by
       refine RS.trans h5 (.step (.mk (x:=q) (y:=l[i]) (r:=x7++l.drop (i+1)) ?_ hh (.refl _)) (.done (.refl _)));show(q::(x7++l[i]::l.drop (i+1))).Perm _;exact List.perm_middle.cons q) (fun hb=>by cases hb) (fun _=>by omega)
      refine⟨r,hr,Ev.step (f:=fun k=>(leatref10_Merge.f k a q.f2 l[i].f2).bind fun t=>leatref11_merge.l1 k a l x7 true ((i+1:Nat):Int) q.f0 (mn q.f1.f0 l[i].f1.f0) (mx q.f1.f1 l[i].f1.f1) t) (fun k=> ?_) (Ev.bind (rmerge_ev ha q.f2 l[i].f2) hev)⟩;simp only[leatref11_merge.l1];rw[if_pos (by omega),if_pos (by omega),rd46_at hlt,if_pos hk,hov,Option.bind_some,if_pos (hiff.2 hh),hw]
     ·obtain⟨r,hr,hev⟩:=skip hh;refine⟨r,hr,Ev.step (fun k=> ?_) hev⟩;simp only[leatref11_merge.l1];rw[if_pos (by omega),if_pos (by omega),rd46_at hlt,if_pos hk,hov,Option.bind_some,if_neg (fun hv=>hh (hiff.1 hv)),if_pos (by omega),hw]
    ·obtain⟨r,hr,hev⟩:=skip (fun hh=>hk (hitK_key hh));refine⟨r,hr,Ev.step (fun k=> ?_) hev⟩;simp only[leatref11_merge.l1];rw[if_pos (by omega),if_pos (by omega),rd46_at hlt,if_neg hk,if_pos (by omega),hw]
  obtain⟨r,hr,hev⟩:=loop l.length 0 [] false p (by omega) (by simp) (by simp) hp rfl (by simpa using hrs) (fun _=>⟨rfl,by simp,by simp⟩) (fun hb=>by cases hb);exact⟨r,hr,Ev.step (fun k=>by simp only[leatref11_merge.l0];rfl) hev⟩
theorem merge_sp {a:Int} (ha:aggOk a=true) (p:S70) (l:List S70) (hl:l.length<4398046510000) (hp:Proper p) (hpl: ∀x ∈ l,Proper x):
  Sp (Mr a p l) (fun k=>leatref11_merge.f k a l p.f0 p.f1.f0 p.f1.f1 p.f2):=by
 obtain⟨r,hr,hev⟩:=merge_pass ha p l l.length l p (Nat.le_refl _) hl hp hpl (.done (.refl _)) (.refl _);exact⟨r,hr,Ev.congr (fun k=>by rw[leatref11_merge.f]) hev⟩
end Go.Proofs.Ytjegeghigfmkoaa.Th
namespace Go.Proofs.Ytjegeghigfmkoaa.Th
open Go.RowKit Go.Sort Go.Proofs.YtjegeghigfmkoaaW.PrintWords Go.Proofs.YtjegeghigfmkoaaW.PrintMore Go.Proofs.Ytjegeghigfmkoaa Go.Proofs.Ytjegeghigfmkoaa.So Go.Proofs.Ytjegeghigfmkoaa.X Go.Proofs.Ytjegeghigfmkoaa.Nf
set_option linter.unusedVariables false
set_option linter.unusedSimpArgs false
theorem rzero_eq (a:Int):leatref10_Zero.f a=some (aggZero a):=by
 unfold leatref10_Zero.f aggZero;by_cases h3:a=3
 ·rw[if_pos h3,if_pos h3]
 ·rw[if_neg h3,if_neg h3];by_cases h4:a=4
  ·rw[if_pos h4,if_pos h4]
  ·rw[if_neg h4,if_neg h4]
theorem radd_ev {a:Int} (ha:aggOk a=true) (x y:Int):Ev (fun k=>leatref10_Add.f k a x y) (aggAdd a x y):=by
 rw[add_eq ha];by_cases h2:a=2
 ·refine Ev.congr (f:=fun _=>some (aggBoth a x (aggVal a y))) (fun k=> ?_) (Ev.now _);rw[leatref10_Add.f,if_pos h2,aggVal,if_pos h2,aggBoth,if_pos (.inr h2)]
 ·have h:=rmerge_ev ha x y;rw[merge_both ha] at h;rw[show aggVal a y=y from if_neg h2];exact Ev.congr (fun k=>by rw[leatref10_Add.f,if_neg h2]) (Ev.bind h (Ev.now _))
structure Io (kind a:Int) (p:S70) (l r:List S70):Prop where
 rs:RSk kind a (p::l) r
 nk:NK kind l→NK kind r
 st:Sorted r
 pr: ∀x ∈ r,Proper x
theorem into_l0 {kind a:Int} (ha:aggOk a=true) (hk:kind≠3) (p0:S70) (l:List S70) (hl:l.length<4398046510000) (hpl: ∀x ∈ l,Proper x): ∀(d i:Nat) (x:List S70) (q:S70),l.length=i+d→x.length≤i→x.Sublist (l.take i)→Proper q→q.f0=p0.f0→q.f1=p0.f1→
  RSk kind a (p0::l) (q::x++l.drop i)→(∀y ∈ x,¬hitK kind q y)→
  Sp (Io kind a p0 l) (fun k=>leatref11_Into.l0 k a l x (i:Int) p0.f1.f0 p0.f1.f1 p0.f0 p0.f1.f0 p0.f1.f1 q.f2)
 | 0,i,x,q,h,h1,h2,h3,h4,h5,h6,h7=>by
  rw[List.drop_eq_nil_of_le (by omega),List.append_nil] at h6;rw[List.take_of_length_le (by omega)] at h2;have hs:=rsort_ev (x++[q]) (by simp;omega);have hperm:(q::x).Perm (x++[q]):=(List.perm_append_singleton _ _).symm;have hq:(⟨p0.f0,(⟨p0.f1.f0,p0.f1.f1⟩:S68),q.f2⟩:S70)=q:=S70_ext h4.symm (by rw[h5]) (by rw[h5]) rfl;refine⟨sortP (x++[q]),⟨h6.perm (.refl _) (hperm.trans (sortP_perm _).symm),fun hN=> ?_,sortP_sorted _,fun y hy=> ?_⟩,Ev.step (fun k=> ?_) (Ev.bind hs (Ev.now _))⟩
  ·have:NK kind (q::x):=List.pairwise_cons.2 ⟨h7,hN.sublist h2⟩;exact Normal.perm (mgK kind ha) this (hperm.trans (sortP_perm _).symm)
  ·have hm:=(sortP_perm _).subset hy;rcases List.mem_append.1 hm with hm|hm
   ·exact hpl y (h2.subset hm)
   ·rw[List.mem_singleton.1 hm];exact h3
  ·simp only[leatref11_Into.l0];rw[if_neg (by omega),if_pos (by omega),hq]
 | d +1,i,x,q,h,h1,h2,h3,h4,h5,h6,h7=>by
  have hlt:i<l.length:=by omega
  have hpx:=hpl _ (List.getElem_mem hlt);have hw:=step_i hlt (by omega);rw[List.drop_eq_getElem_cons hlt] at h6;have htk:l.take (i+1)=l.take i++[l[i]]:=(List.take_append_getElem hlt).symm
  have skip: ¬hitK kind q l[i]→Sp (Io kind a p0 l) (fun k=>leatref11_Into.l0 k a l (x++[l[i]]) ((i+1:Nat):Int) p0.f1.f0 p0.f1.f1 p0.f0 p0.f1.f0 p0.f1.f1 q.f2):=by
   intro hno;refine into_l0 ha hk p0 l hl hpl d (i+1) (x++[l[i]]) q (by omega) (by simp;omega) (by rw[htk];exact h2.append_right _) h3 h4 h5 (by simpa using h6) (fun y hy=> ?_);rcases List.mem_append.1 hy with hy|hy
   ·exact h7 y hy
   ·rw[List.mem_singleton.1 hy];exact hno
  have hsame:hitK kind q l[i]↔(l[i].f0=p0.f0∧((l[i].f1.f0==p0.f1.f0) && (l[i].f1.f1==p0.f1.f1))=true):=by
   unfold hitK;rw[if_neg hk,sameP_iff,h4,h5,Bool.and_eq_true,beq_iff_eq,beq_iff_eq]
  by_cases hkey:l[i].f0=p0.f0
  ·by_cases hsp:((l[i].f1.f0==p0.f1.f0) && (l[i].f1.f1==p0.f1.f1))=true
   ·have hh:hitK kind q l[i]:=hsame.2 ⟨hkey,hsp⟩;have e0:l[i].f1.f0=q.f1.f0:=by rw[Bool.and_eq_true,beq_iff_eq,beq_iff_eq] at hsp;rw[h5];exact hsp.1
    have e1:l[i].f1.f1=q.f1.f1:=by rw[Bool.and_eq_true,beq_iff_eq,beq_iff_eq] at hsp;rw[h5];exact hsp.2
    have hj1:(joinP a q l[i]).f1=q.f1:=by
     show(⟨mn q.f1.f0 l[i].f1.f0,mx q.f1.f1 l[i].f1.f1⟩:S68)=q.f1;have a1:mn q.f1.f0 l[i].f1.f0=q.f1.f0:=by unfold mn;split<;>omega
     have a2:mx q.f1.f1 l[i].f1.f1=q.f1.f1:=by unfold mx;split<;>omega
     rw[a1,a2]
    obtain⟨r,hr,hev⟩:=into_l0 ha hk p0 l hl hpl d (i+1) x (joinP a q l[i]) (by omega) (by omega) (by rw[htk];exact h2.trans (List.sublist_append_left _ _)) (proper_join h3 hpx) h4 (by rw[hj1];exact h5) (by
     refine RS.trans h6 (.step (.mk (x:=q) (y:=l[i]) (r:=x++l.drop (i+1)) ?_ hh (.refl _)) (.done (.refl _)));show(q::(x++l[i]::l.drop (i+1))).Perm _
     exact List.perm_middle.cons q) (fun y hy hh2=>h7 y hy (by
      unfold hitK at*
      rw[if_neg hk,sameP_iff] at*
      rw[hj1] at hh2;exact hh2))
    refine⟨r,hr,Ev.step (f:=fun k=>(leatref10_Merge.f k a q.f2 l[i].f2).bind fun t=>leatref11_Into.l0 k a l x ((i+1:Nat):Int) p0.f1.f0 p0.f1.f1 p0.f0 p0.f1.f0 p0.f1.f1 t) (fun k=> ?_) (Ev.bind (rmerge_ev ha q.f2 l[i].f2) hev)⟩;simp only[leatref11_Into.l0];rw[if_pos (by omega),if_pos (by omega),rd46_at hlt,if_pos hkey,if_pos hsp,hw]
   ·obtain⟨r,hr,hev⟩:=skip (fun hh=>hsp (hsame.1 hh).2);refine⟨r,hr,Ev.step (fun k=> ?_) hev⟩;simp only[leatref11_Into.l0];rw[if_pos (by omega),if_pos (by omega),rd46_at hlt,if_pos hkey,if_neg hsp,if_pos (by omega),hw]
  ·obtain⟨r,hr,hev⟩:=skip (fun hh=>hkey (hsame.1 hh).1);refine⟨r,hr,Ev.step (fun k=> ?_) hev⟩;simp only[leatref11_Into.l0];rw[if_pos (by omega),if_pos (by omega),rd46_at hlt,if_neg hkey,if_pos (by omega),hw]
theorem into_sp {kind a:Int} (ha:aggOk a=true) (size slide key t val:Int) (s:S68) (hs:s.f0<s.f1) (l:List S70) (hl:l.length<4398046510000) (hpl: ∀x ∈ l,Proper x):
  Sp (Io kind a (one a key val s) l) (fun k=>leatref11_Into.f k kind size slide a l key t val s.f0 s.f1):=by
 have hone:Proper (one a key val s):=hs;by_cases hk:kind=3
 ·subst hk;obtain⟨r,hr,hev⟩:=merge_sp ha (one a key val s) l hl hone hpl;refine⟨r,⟨hr.rs,hr.nk,hr.st,hr.pr⟩,?_⟩;refine Ev.congr (fun k=>by rw[leatref11_Into.f,rzero_eq,Option.bind_some]) ?_;refine Ev.bind (radd_ev ha (aggZero a) val) ?_;refine Ev.congr (fun k=>if_pos rfl) ?_;exact Ev.bind hev (Ev.now _)
 ·obtain⟨r,hr,hev⟩:=into_l0 ha hk (one a key val s) l hl hpl l.length 0 [] (one a key val s) (by omega) (by simp) (by simp) hone rfl rfl (by simpa using RS.done (.refl _)) (by simp);refine⟨r,hr,?_⟩;refine Ev.congr (fun k=>by rw[leatref11_Into.f,rzero_eq,Option.bind_some]) ?_;refine Ev.bind (radd_ev ha (aggZero a) val) ?_;exact Ev.congr (fun k=>if_neg hk) hev
structure Ip (kind a:Int) (x p:List S70):Prop where
 is:Is kind a x p
 pr: ∀y ∈ p,Proper y
theorem rfire_l0 (m:Int) (l:List S70) (hn:l.length<4398046511000): ∀(d i:Nat) (x:List S39) (y:List S70),l.length=i+d→x.length≤i→y.length≤i→
  Ev (fun k=>leatref11_Fire.l0 k l m x y (i:Int)) (x++outR m (l.drop i),y++leftR m (l.drop i))
 |0,i,x,y,h,h1,h2=>by
  rw[List.drop_eq_nil_of_le (by omega)];simp only[outR,leftR,List.filter_nil,List.map_nil,List.append_nil];refine Ev.step (f:=fun _=>some _) (fun k=> ?_) (Ev.now _);simp only[leatref11_Fire.l0];rw[if_neg (by omega)]
 | d+1,i,x,y,h,h1,h2=>by
  have hlt:i<l.length:=by omega
  rw[List.drop_eq_getElem_cons hlt];by_cases hc:wrap64 (l[i].f1.f1-1)≤m
  ·have e:due m l[i]=true:=decide_eq_true hc;have ih:=rfire_l0 m l hn d (i+1) (x++[⟨l[i].f0,wrap64 (l[i].f1.f1-1),l[i].f2⟩]) y (by omega) (by simp;omega) (by omega);rw[outR_pos e,leftR_pos e];rw[List.append_assoc,List.singleton_append] at ih;refine Ev.step (fun k=> ?_) ih;simp only[leatref11_Fire.l0];rw[if_pos (by omega),if_pos (by omega),rd46_at hlt,if_pos hc,if_pos (by omega),step_i hlt (by omega)]
  ·have e:due m l[i]=false:=decide_eq_false hc;have ih:=rfire_l0 m l hn d (i+1) x (y++[l[i]]) (by omega) (by omega) (by simp;omega);rw[outR_neg e,leftR_neg e];rw[List.append_assoc,List.singleton_append] at ih;refine Ev.step (fun k=> ?_) ih;simp only[leatref11_Fire.l0];rw[if_pos (by omega),if_pos (by omega),rd46_at hlt,if_neg hc,if_pos (by omega),step_i hlt (by omega)]
theorem rfire_ev (m:Int) (l:List S70) (hn:l.length<4398046511000):Ev (fun k=>leatref11_Fire.f k l m) (outR m (sortP l),leftR m (sortP l)):=by
 have hs:=rsort_ev l hn;have h:=rfire_l0 m (sortP l) (by rw[sortP_len];exact hn) (sortP l).length 0 [] [] (by omega) (by simp) (by simp);refine Ev.congr (fun k=>by rw[leatref11_Fire.f]) ?_;exact Ev.bind hs h
end Go.Proofs.Ytjegeghigfmkoaa.Th
