/- Walk of State.Bytes. Conditions: those typed. -/
import Derived.Test.YtjegeghigfmkoaaMStatePlays22
import Derived.Test.YtjegeghigfmkoaaMStatePlays24
import Derived.Test.YtjegeghigfmkoaaMStatePlays11
import Derived.Test.YtjegeghigfmkoaaMStatePlays19
import Derived.Test.YtjegeghigfmkoaaMStatePlays12
import Derived.Test.YtjegeghigfmkoaaMStatePlays21
import Derived.Test.YtjegeghigfmkoaaMStatePlays20
namespace Go.Proofs.Ytjegeghigfmkoaa.T
open Go.RowKit Go.Maps Go.Sort Go.Proofs Go.Proofs.Ytjegeghigfmkoaa Go.Proofs.Ytjegeghigfmkoaa.X Go.Proofs.YtjegeghigfmkoaaW.PrintWords Go.Proofs.YtjegeghigfmkoaaW.PrintLast Go.Proofs.YtjegeghigfmkoaaW.PrintMore
set_option linter.unusedVariables false
set_option linter.unusedSimpArgs false
set_option maxRecDepth 100000
variable {F:Nat→Prop} {N:Nat} {w w' :World} {q b1 b2:Nat} {tv:Value} {tm:List Int} {s:St}
theorem num_in {w0:World} {B:Nat} {v:Value} {b:List Int} {m:Nat} (n:Int) (hm:m≤8) (hb:Below w0.heap.size w0 w) (hw:w0.heap.size≤B) (hBw:B≤w.heap.size) (hR:Kd.R (Kd.int .u8) 5 w w0.heap.size (fun k=>B≤k) v b) (hl:b.length≤100000000):
  Calls Try.prog 50 #[v,.int .u64 n,.int .i64 (m:Int)] w fun e w'=> ∃v',e= .returned v'∧Kd.R (Kd.int .u8) 5 w' w0.heap.size (fun k=>B≤k) v' (b++numB n m)∧Below w0.heap.size w0 w'∧Kept w w' (fun k=>B≤k):=by
 obtain⟨k,hk⟩:=number_ev n m b hm (by omega);refine(state_number.calls k (fun k=>B≤k) v b n m _ w0 w hb hR (hk k (Nat.le_refl _))).mono ?_;rintro e w' ⟨v',rfl,h1,h2,h3⟩;exact⟨v',rfl,Kd.R_mono h1 (fun k hk=>hk.elim id (fun h=>Nat.le_trans hBw h)),h2,h3⟩
def partB (p:S70):Nat→List Int
 |0=>[]
 |1=>numB (IntKind.u64.wrap p.f0) 8
 |2=>numB (IntKind.u64.wrap p.f0) 8++numB (IntKind.u64.wrap p.f1.f0) 8
 |3=>numB (IntKind.u64.wrap p.f0) 8++numB (IntKind.u64.wrap p.f1.f0) 8++numB (IntKind.u64.wrap p.f1.f1) 8
 |_=>paneB p
theorem idx107 (a b c d:Int) (j:Nat) (hj:j<4) (w:World):(Instr.index 107 (.agg #[.int .i64 a,.int .i64 b,.int .i64 c,.int .i64 d]) (.int .i64 (j:Int))).run Try.prog w= .ok (#[Value.int .i64 a,.int .i64 b,.int .i64 c,.int .i64 d][j]) w:=by
 rcases j with _|_|_|_|j
 all_goals first|omega|skip
 all_goals simp[Instr.index,run_underlying Try.underlying107,asIntOf,go_sem]
structure Lb (w w1:World) (A1:Option Addr) (ps:List S70) (b:List Int) (wr:World) (v:Value):Prop where
 row:Kd.R (Kd.int .u8) 5 wr w.heap.size (fun k=>w1.heap.size≤k) v b
 pan:Kd.F k70 wr (fun k=>k<w1.heap.size) A1 ps.length ps
 bl:Below w.heap.size w wr
 sz:w1.heap.size≤wr.heap.size
theorem Lb.alloc {w1 wr:World} {A1:Option Addr} {ps:List S70} {b:List Int} {v:Value} (h:Lb w w1 A1 ps b wr v) (o:Obj):Lb w w1 A1 ps b (wr.alloc o) v:=
 ⟨Kd.R_below h.row ((Below.refl _ wr).alloc (Nat.le_refl _) o),Kd.F_alloc h.pan o,h.bl.alloc h.bl.size o,by have:=h.sz;simp;omega⟩
theorem Lb.num {w1 wr:World} {A1:Option Addr} {ps:List S70} {b:List Int} {v:Value} (h:Lb w w1 A1 ps b wr v) (hw:w.heap.size≤w1.heap.size) (hl:b.length≤100000000) (n:Int):
  Calls Try.prog 50 #[v,.int .u64 n,.int .i64 8] wr fun e w'=> ∃v',e= .returned v'∧Lb w w1 A1 ps (b++numB n 8) w' v' :=by
 refine(num_in (w0:=w) (B:=w1.heap.size) (m:=8) n (by decide) h.bl hw h.sz h.row hl).mono ?_;rintro e w2 ⟨v2,rfl,hR2,hb2,hk2⟩;exact⟨v2,rfl,hR2,Kd.F_kept h.pan hk2 (fun k hk hh=>by have hh:w1.heap.size≤k:=hh;have hk:k<w1.heap.size:=hk;omega),hb2,Nat.le_trans h.sz hk2.1⟩
def ps0 (ps:List S70) (i:Nat):List Int:=numB (IntKind.u64.wrap (ps.length:Int)) 4++panesB (ps.take i)
theorem ps0_len (ps:List S70) (i:Nat) (h:ps.length≤1000000):(ps0 ps i).length≤50000000:=by
 unfold ps0;rw[List.length_append,numB_len,panesB_len,List.length_take];omega
theorem ps0_next {ps:List S70} {i:Nat} (h:i<ps.length):ps0 ps (i+1)=ps0 ps i++paneB ps[i]:=by
 unfold ps0;rw[←List.take_append_getElem h,List.append_assoc];unfold panesB;rw[List.flatMap_append];simp
theorem partB_len (p:S70) (j:Nat):(partB p j).length≤32:=by
 rcases j with _|_|_|_|j<;>simp[partB,numB_len,paneB_len]
theorem partB_next1 (b:List Int) (p:S70):b++partB p 0++numB (IntKind.u64.wrap p.f0) 8=b++partB p 1:=by simp[partB]
theorem partB_next2 (b:List Int) (p:S70):b++partB p 1++numB (IntKind.u64.wrap p.f1.f0) 8=b++partB p 2:=by simp[partB]
theorem partB_next3 (b:List Int) (p:S70):b++partB p 2++numB (IntKind.u64.wrap p.f1.f1) 8=b++partB p 3:=by simp[partB]
theorem partB_next4 (b:List Int) (p:S70):b++partB p 3++numB (IntKind.u64.wrap p.f2) 8=b++partB p 4:=by simp[partB,paneB]
set_option maxHeartbeats 4000000 in
theorem Bytes_calls (h:IsS F N w q s):Calls Try.prog 23 #[.pointer (some ⟨q,0,none⟩)] w fun e w'=> ∃v,e= .returned v∧Kd.R (Kd.int .u8) 5 w' w.heap.size (fun _=>True) v (bytesB (sortP s.ps))∧Below w.heap.size w w' :=by
  have HI:=Aside0.mk h;have HL:=Aside0.mk (show(sortP s.ps).length≤1000000 by rw[sortP_len];exact Nat.le_trans h.len h.small);clear h;generalize hps:sortP s.ps=ps at HL ⊢;have HPS:=Aside0.mk hps;clear hps;go_enter Try.func23,Try.ntmps23
  go_wp2_with (first
    | (go_at_call 21
       refine(Panes_calls HI.out).mono ?_;rintro e w1 ⟨v1,rfl,hR1,hb1⟩;rw[HPS.out] at hR1;obtain⟨A1,c1,rfl⟩:=Kd.R_slice hR1;have HF1:=Aside0.mk (Kd.F_mono (Kd.R_F (Kd.R_bound hR1)) (fun k hk=>hk.2.2.1));have HB1:=Aside0.mk hb1;clear hR1 hb1)
    | (go_at_call 50
       refine(num_in (w0:=w) (B:=w1.heap.size) (b:=[]) (m:=4) _ (by decide) HB1.out HB1.out.size (Nat.le_refl _) (Kd.R_nil _ _ _ _ _) (by simp)).mono ?_;rintro e w2 ⟨v2,rfl,hR2,hb2,hk2⟩;have HR2:=Aside0.mk hR2;have HB2:=Aside0.mk hb2;have SZ:=Aside0.mk hk2.1;have HF2:=Aside0.mk (Kd.F_kept HF1.out hk2 (fun k hk hh=>by have hh:w1.heap.size≤k:=hh;have hk:k<w1.heap.size:=hk;omega));clear hR2 hb2 hk2))
  have HLB:Aside0 (Lb w w1 A1 ps (ps0 ps 0) w2 v2):=⟨⟨by simpa[ps0,panesB] using HR2.out,HF2.out,HB2.out,SZ.out⟩⟩
  clear HR2 HF2 HB2 SZ;go_loopg [4,17] ps.length (fun kx s4 s17 wr=> ∃(i:Nat),s17= .int .i64 i∧ps.length-i≤kx∧i≤ps.length∧Aside0 (Lb w w1 A1 ps (ps0 ps i) wr s4))
  case atStart=>exact⟨0,rfl,by omega,by omega,HLB⟩
  case round=>
    clear HLB;obtain⟨i,rfl,hkx,hi,HQ⟩:=hrel;by_cases hlt:i<ps.length
    · have hlz:((i:Int)<(ps.length:Int)):=by omega
      have hiz:(0:Int)≤(i:Int):=by omega
      obtain⟨ad,rfl,x0,x1,x2,x3⟩:=at_T70 (Kd.F_now HQ.out.pan) (i:Int) hiz hlz;obtain⟨z,hz⟩: ∃z:S70,ps[i]=z:=⟨_,rfl⟩
      have hgd:rd_T70 ps (i:Int)=z:=by rw[←hz];simp[rd_T70,hlt]
      rw[hgd] at x0 x1 x2 x3;have hin:((i:Int)).toNat=i:=by omega
      rw[hin] at x0 x1 x2 x3;have HZ:Aside0 (ps0 ps (i+1)=ps0 ps i++partB z 4):=⟨by rw[ps0_next hlt,hz];rfl⟩
      have hwi:wrap64 ((i:Int)+1)=((i+1:Nat):Int):=by have:=HL.out;unfold wrap64;omega
      have HI1:=Aside0.mk (And.intro hkx (And.intro hi hlt));clear hkx hi hz hgd hin hlt;go_wp2_with fail;have HX0:Aside0 (Lb w w1 (some ad) ps (ps0 ps i++partB z 0) (wr.alloc (.cells #[.int .i64 z.f0,.int .i64 z.f1.f0,.int .i64 z.f1.f1,.int .i64 z.f2] 70)) _):=⟨by simpa[partB] using HQ.out.alloc (.cells #[.int .i64 z.f0,.int .i64 z.f1.f0,.int .i64 z.f1.f1,.int .i64 z.f2] 70)⟩
      generalize (wr.alloc (.cells #[.int .i64 z.f0,.int .i64 z.f1.f0,.int .i64 z.f1.f1,.int .i64 z.f2] 70))=w4 at HX0 ⊢;clear x0 x1 x2 x3 HQ;go_loopg [4,32] 4 (fun ky s4 s32 wr=> ∃(j:Nat),((j=0∧s32= .int .i64 0)∨(j=1∧s32= .int .i64 1)∨(j=2∧s32= .int .i64 2)∨(j=3∧s32= .int .i64 3)∨(j=4∧s32= .int .i64 4))∧4-j≤ky∧Aside0 (Lb w w1 (some ad) ps (ps0 ps i++partB z j) wr s4))
      case atStart=>exact⟨0,Or.inl ⟨rfl,rfl⟩,by decide,HX0⟩
      case round=>
        clear HX0;obtain⟨j,hj,hky,HX⟩:=hrel;rcases hj with ⟨rfl,rfl⟩|⟨rfl,rfl⟩|⟨rfl,rfl⟩|⟨rfl,rfl⟩|⟨rfl,rfl⟩
        · have ij: ∀W,(Instr.index 107 (aggP z) (.int .i64 0)).run Try.prog W= .ok (.int .i64 z.f0) W:=fun W=>idx107 _ _ _ _ 0 (by decide) W
          go_wp2_with (go_at_call 50;refine(HX.out.num HB1.out.size (by have h1:=ps0_len ps i HL.out;have h2:=partB_len z 0;rw[List.length_append];omega) _).mono ?_;rintro e w5 ⟨v5,rfl,hx⟩;rw[partB_next1] at hx;have HX5:=Aside0.mk hx;clear hx);go_roundg (4-1)
          case measure=>omega
          case rel=>exact⟨1,Or.inr (Or.inl ⟨rfl,rfl⟩),Nat.le_refl _,HX5⟩
        · have ij: ∀W,(Instr.index 107 (aggP z) (.int .i64 1)).run Try.prog W= .ok (.int .i64 z.f1.f0) W:=fun W=>idx107 _ _ _ _ 1 (by decide) W
          go_wp2_with (go_at_call 50;refine(HX.out.num HB1.out.size (by have h1:=ps0_len ps i HL.out;have h2:=partB_len z 1;rw[List.length_append];omega) _).mono ?_;rintro e w5 ⟨v5,rfl,hx⟩;rw[partB_next2] at hx;have HX5:=Aside0.mk hx;clear hx);go_roundg (4-2)
          case measure=>omega
          case rel=>exact⟨2,Or.inr (Or.inr (Or.inl ⟨rfl,rfl⟩)),Nat.le_refl _,HX5⟩
        · have ij: ∀W,(Instr.index 107 (aggP z) (.int .i64 2)).run Try.prog W= .ok (.int .i64 z.f1.f1) W:=fun W=>idx107 _ _ _ _ 2 (by decide) W
          go_wp2_with (go_at_call 50;refine(HX.out.num HB1.out.size (by have h1:=ps0_len ps i HL.out;have h2:=partB_len z 2;rw[List.length_append];omega) _).mono ?_;rintro e w5 ⟨v5,rfl,hx⟩;rw[partB_next3] at hx;have HX5:=Aside0.mk hx;clear hx);go_roundg (4-3)
          case measure=>omega
          case rel=>exact⟨3,Or.inr (Or.inr (Or.inr (Or.inl ⟨rfl,rfl⟩))),Nat.le_refl _,HX5⟩
        · have ij: ∀W,(Instr.index 107 (aggP z) (.int .i64 3)).run Try.prog W= .ok (.int .i64 z.f2) W:=fun W=>idx107 _ _ _ _ 3 (by decide) W
          go_wp2_with (go_at_call 50;refine(HX.out.num HB1.out.size (by have h1:=ps0_len ps i HL.out;have h2:=partB_len z 3;rw[List.length_append];omega) _).mono ?_;rintro e w5 ⟨v5,rfl,hx⟩;rw[partB_next4] at hx;have HX5:=Aside0.mk hx;clear hx);go_roundg (4-4)
          case measure=>omega
          case rel=>exact⟨4,Or.inr (Or.inr (Or.inr (Or.inr (⟨rfl,rfl⟩)))),Nat.le_refl _,HX5⟩
        · go_wp2
          rw[hwi];go_roundg (ps.length- (i+1))
          case measure=>have:=HI1.out;omega
          case rel=>exact⟨i+1,rfl,Nat.le_refl _,HI1.out.2.2,⟨by rw[HZ.out];exact HX.out⟩⟩
    · have hlz: ¬((i:Int)<(ps.length:Int)):=by omega
      have HI1:=Aside0.mk (show i=ps.length from by omega);clear hlt hkx hi;go_wp2;go_ret;have hR:=HQ.out.row;rw[HI1.out,ps0,List.take_length] at hR;exact⟨_,rfl,Kd.R_mono hR (fun _ _=>trivial),HQ.out.bl⟩
end Go.Proofs.Ytjegeghigfmkoaa.T
namespace Go.Proofs.Ytjegeghigfmkoaa.T
open Go.RowKit Go.Maps Go.Sort Go.Proofs Go.Proofs.Ytjegeghigfmkoaa Go.Proofs.Ytjegeghigfmkoaa.X Go.Proofs.YtjegeghigfmkoaaW.PrintWords Go.Proofs.YtjegeghigfmkoaaW.PrintLast Go.Proofs.YtjegeghigfmkoaaW.PrintMore
set_option linter.unusedVariables false
set_option linter.unusedSimpArgs false
set_option maxRecDepth 100000
variable {F:Nat→Prop} {N:Nat} {w w' :World} {q b1 b2:Nat} {tv:Value} {tm:List Int} {s:St}
noncomputable def readB (b:List Int):List S70:=parseN ((b.length-4)/ 32) (b.drop 4)
noncomputable def openL (kind a:Int) (b:List Int):List S70:=loadL a (loadOf kind a (readB b))
def FormB (b:List Int):Prop:=4≤b.length∧b.length % 32=4
def OpenOk (kind a:Int) (b:List Int):Prop:=FormB b∧bytesB (sortP (openL kind a b))=b
theorem mod32 {n:Nat}:Int.tmod (n:Int) 32=((n % 32:Nat):Int):=by
 rw[Int.tmod_eq_emod_of_nonneg (by omega)];rfl
theorem cut_run (A:Option Addr) (n c lo:Nat) (h:lo≤n) (hc:n≤c) (W:World):(Instr.slice 58 (.slice A n c) (some (.int .i64 (lo:Int))) none none).run Try.prog W= .ok (.slice (if c=lo then A else A.map (·.add (lo*(Kd.int .u8).sz))) (n-lo) (c-lo)) W:=by
 have e:(Kd.int .u8).sz=1:=rfl;rw[e,Nat.mul_one];by_cases h0:c=lo
 ·subst h0;simp[Instr.slice,run_underlying Try.underlying58,Instr.sliceBounds,go_sem];intro;omega
 ·simp[Instr.slice,run_underlying Try.underlying58,Instr.sliceBounds,go_sem];intro;omega
theorem mid_run (A:Option Addr) (n c lo hi:Nat) (h:lo≤hi) (hh:hi≤n) (hc:n≤c) (W:World):(Instr.slice 58 (.slice A n c) (some (.int .i64 (lo:Int))) (some (.int .i64 (hi:Int))) none).run Try.prog W= .ok (.slice (if c=lo then A else A.map (·.add (lo*(Kd.int .u8).sz))) (hi-lo) (c-lo)) W:=by
 have e:(Kd.int .u8).sz=1:=rfl;rw[e,Nat.mul_one];have h3:hi≤c:=by omega
 by_cases h0:c=lo
 ·subst h0;simp[Instr.slice,run_underlying Try.underlying58,Instr.sliceBounds,go_sem,h,h3]
  try(intro;omega)
 ·simp[Instr.slice,run_underlying Try.underlying58,Instr.sliceBounds,go_sem,h,h3]
  try(intro;omega)
theorem to_run (A:Option Addr) (n c hi:Nat) (hh:hi≤n) (hc:n≤c) (W:World):(Instr.slice 58 (.slice A n c) none (some (.int .i64 (hi:Int))) none).run Try.prog W= .ok (.slice A hi c) W:=by
 have h3:hi≤c:=by omega
 simp[Instr.slice,run_underlying Try.underlying58,Instr.sliceBounds,go_sem,h3]
def Byt (w:World) (A:Option Addr) (l:List Int):Prop:= ∀W,Below w.heap.size w W→Kd.C (Kd.int .u8) W A l.length l
theorem Byt.taken {A:Option Addr} {l:List Int} (h:Byt w A l) (c:Nat) (hc:l.length≤c) (hl:l.length≤1000) (W:World) (hb:Below w.heap.size w W):Calls Try.prog 48 #[.slice A l.length c] W fun e w'=>e= .returned (.int .i64 (takenP l))∧Drawn0 W w' :=by
 obtain⟨k,hk⟩:=taken_ev l (by omega);exact state_taken.calls k A c l _ W (h W hb) hc (hk k (Nat.le_refl _))
structure Cut (w:World) (v:Value) (l:List Int):Prop where
 p0: ∃A c,(∀W,(Instr.slice 58 v none (some (.int .i64 8)) none).run Try.prog W= .ok (.slice A 8 c) W)∧ ∀W,Below w.heap.size w W→Calls Try.prog 48 #[.slice A 8 c] W fun e w'=>e= .returned (.int .i64 (takenP (l.take 8)))∧Drawn0 W w'
 p1: ∃A c,(∀W,(Instr.slice 58 v (some (.int .i64 8)) (some (.int .i64 16)) none).run Try.prog W= .ok (.slice A 8 c) W)∧ ∀W,Below w.heap.size w W→Calls Try.prog 48 #[.slice A 8 c] W fun e w'=>e= .returned (.int .i64 (takenP ((l.take 16).drop 8)))∧Drawn0 W w'
 p2: ∃A c,(∀W,(Instr.slice 58 v (some (.int .i64 16)) (some (.int .i64 24)) none).run Try.prog W= .ok (.slice A 8 c) W)∧ ∀W,Below w.heap.size w W→Calls Try.prog 48 #[.slice A 8 c] W fun e w'=>e= .returned (.int .i64 (takenP ((l.take 24).drop 16)))∧Drawn0 W w'
 p3: ∃A c,(∀W,(Instr.slice 58 v (some (.int .i64 24)) (some (.int .i64 32)) none).run Try.prog W= .ok (.slice A 8 c) W)∧ ∀W,Below w.heap.size w W→Calls Try.prog 48 #[.slice A 8 c] W fun e w'=>e= .returned (.int .i64 (takenP ((l.take 32).drop 24)))∧Drawn0 W w'
theorem cut_mid {A:Option Addr} {c:Nat} {l:List Int} (h:Byt w A l) (hc:l.length≤c) (lo hi:Nat) (h1:hi=lo+8) (h2:hi≤l.length): ∃A' c',(∀W,(Instr.slice 58 (.slice A l.length c) (some (.int .i64 (lo:Int))) (some (.int .i64 (hi:Int))) none).run Try.prog W= .ok (.slice A' 8 c') W)∧ ∀W,Below w.heap.size w W→Calls Try.prog 48 #[.slice A' 8 c'] W fun e w'=>e= .returned (.int .i64 (takenP ((l.take hi).drop lo)))∧Drawn0 W w' :=by
 have e8:hi-lo=8:=by omega
 have hl:((l.take hi).drop lo).length=8:=by rw[List.length_drop,List.length_take];omega
 refine⟨_,_,fun W=>(mid_run A l.length c lo hi (by omega) h2 hc W).trans (by rw[e8]),fun W hb=> ?_⟩;have hB:Byt w (if c=lo then A else A.map (·.add (lo*(Kd.int .u8).sz))) ((l.take hi).drop lo):=fun W hb=>Kd.C_mid (h W hb) (by omega) h2 hc
 have:=hB.taken (c-lo) (by omega) (by omega) W hb;rw[hl] at this;exact this
theorem cut_of {A:Option Addr} {c:Nat} {l:List Int} (h:Byt w A l) (hc:l.length≤c) (h32:32≤l.length):Cut w (.slice A l.length c) l:=by
 refine⟨?_,cut_mid h hc 8 16 rfl (by omega),cut_mid h hc 16 24 rfl (by omega),cut_mid h hc 24 32 rfl (by omega)⟩;refine⟨A,c,fun W=>to_run A l.length c 8 (by omega) hc W,fun W hb=> ?_⟩;have hl:(l.take 8).length=8:=by rw[List.length_take];omega
 have hB:Byt w A (l.take 8):=fun W hb=>Kd.C_take (h W hb) (by omega)
 have:=hB.taken c (by omega) (by omega) W hb;rw[hl] at this;exact this
theorem cut_rest {A:Option Addr} {c:Nat} {l:List Int} (h:Byt w A l) (hc:l.length≤c) (lo:Nat) (hlo:lo≤l.length): ∃A' c',(∀W,(Instr.slice 58 (.slice A l.length c) (some (.int .i64 (lo:Int))) none none).run Try.prog W= .ok (.slice A' (l.drop lo).length c') W)∧Byt w A' (l.drop lo)∧(l.drop lo).length≤c' :=
 ⟨_,c-lo,fun W=>(cut_run A l.length c lo hlo hc W).trans (by rw[List.length_drop]),fun W hb=>Kd.C_drop (h W hb) hlo hc,by rw[List.length_drop];omega⟩
theorem parseN_snoc: ∀(n:Nat) (l:List Int),parseN (n+1) l=parseN n l++[paneOf (l.drop (32*n))]
 |0,l=>rfl
 |n+1,l=>by
  rw[parseN,parseN_snoc n (l.drop 32),parseN,List.drop_drop];rw[show 32+32*n=32*(n+1) from by omega];rfl
theorem app70 {w:World} {base:Nat} {v:Value} {ps:List S70} (ho:w.ownsRow base 70 4 v ps.length (flatP ps)) (hb:base≤w.heap.size) (p:S70) (B:Nat) (hB:w.heap[B]? =some (.cells #[.int .i64 p.f0,.int .i64 p.f1.f0,.int .i64 p.f1.f1,.int .i64 p.f2] 70 (0,0))) (hn:ps.length≤2000000) (ty:TypeId):
  ∃v' w',(Builtin.append_ #[44,44] ty #[v,.slice (some ⟨B,0,none⟩) 1 1]).run Try.prog w= .ok v' w'∧w'.ownsRow base 70 4 v' (ps.length+1) (flatP (ps++[p]))∧w.grownBy w' v.ownBlock:=by
 obtain⟨i0,hi,hz0,hz1,hz2⟩:=info_parts info70;have hadd: ∀j,((⟨B,0,none⟩:Addr).add j)=⟨B,j,none⟩:=fun j=>by unfold Addr.add;split<;>simp_all
 obtain⟨v',w',g1,g2,g3,_⟩:=run_append_own (P:=Try.prog) w base 44 ty 70 i0 _ 4 _ Try.underlying44 hi hz0 hz1 hz2 rfl (by decide) v ps.length (flatP ps) ho ⟨B,0,none⟩ 1 1 [.int .i64 p.f0,.int .i64 p.f1.f0,.int .i64 p.f1.f1,.int .i64 p.f2] rfl (fun j u hj=>by
  rw[hadd];exact(blk_cell hB j).trans (by simpa using hj)) (by simp[Value.oneCell']) (by unfold maxLen;omega) (by omega) hb
 exact⟨v',w',g1,by rw[flatP_snoc];exact g2,g3⟩
theorem uint8_inj {x y:Int} (hx:0≤x∧x<256) (hy:0≤y∧y<256) (h:UInt8.ofNat x.toNat=UInt8.ofNat y.toNat):x=y:=by
 have h:=congrArg UInt8.toNat h;simp at h;omega
def In8 (l:List Int):Prop:= ∀x ∈ l,0≤x∧x<256
theorem strOf_inj: ∀{l m:List Int},In8 l→In8 m→(l.map fun n=>UInt8.ofNat n.toNat)=(m.map fun n=>UInt8.ofNat n.toNat)→l=m
 |[],[],_,_,_=>rfl
 |[],_::_,_,_,h=>by simp at h
 |_::_,[],_,_,h=>by simp at h
 |x::l,y::m,hl,hm,h=>by
  simp only[List.map_cons,List.cons.injEq] at h;rw[uint8_inj (hl x (List.mem_cons_self ..)) (hm y (List.mem_cons_self ..)) h.1,strOf_inj (fun z hz=>hl z (List.mem_cons_of_mem _ hz)) (fun z hz=>hm z (List.mem_cons_of_mem _ hz)) h.2]
theorem equal_f {l m:List Int} (hl:In8 l) (hm:In8 m):bytes_Equal.f l m=some (decide (l=m)):=by
 unfold bytes_Equal.f;rw[ByteArray.toList_eq,ByteArray.toList_eq,strOfNums_data,strOfNums_data];by_cases h:l=m
 ·subst h;simp
 ·rw[decide_eq_false h];have: ¬(l.map fun n=>UInt8.ofNat n.toNat)=(m.map fun n=>UInt8.ofNat n.toNat):=fun h2=>h (strOf_inj hl hm h2)
  simpa using this
theorem numB_8 (n:Int): ∀s,In8 (numB n s)
 |0=>fun x hx=>by cases hx
 |s+1=>fun x hx=>by
  rcases List.mem_cons.1 hx with rfl|hx
  ·omega
  ·exact numB_8 n s x hx
theorem in8_app {l m:List Int} (hl:In8 l) (hm:In8 m):In8 (l++m):=fun x hx=>(List.mem_append.1 hx).elim (hl x) (hm x)
theorem bytesB_8 (l:List S70):In8 (bytesB l):=by
 refine in8_app (numB_8 _ _) (fun x hx=> ?_);obtain⟨p,_,hp⟩:=List.mem_flatMap.1 hx;exact in8_app (numB_8 _ _) (in8_app (numB_8 _ _) (in8_app (numB_8 _ _) (numB_8 _ _))) x hp
theorem dec2 {P:Prop} [Decidable P]:(decide P=true∧Aside0 P)∨(decide P=false∧Aside0 (¬P)):=by
 by_cases h:P
 ·exact Or.inl ⟨decide_eq_true h,⟨h⟩⟩
 ·exact Or.inr ⟨decide_eq_false h,⟨h⟩⟩
theorem open_below {wr w10 w11 w12 w13:World} {N' :Nat} (h0:Below w.heap.size w wr) (h1:Below wr.heap.size wr w10) (h2:To (fun k=>wr.heap.size≤k∧k<w10.heap.size) w10 w11 N' q s) (h3:Below w11.heap.size w11 w12) (h4:Below w12.heap.size w12 w13):Below w.heap.size w w13:=by
 have hto:Below wr.heap.size w10 w11:=h2.fr.toBelow (B:=wr.heap.size) h1.size (fun k _ hk=>hk.1);have h5:=(h1.trans hto).trans (h3.mono (Nat.le_trans h1.size h2.fr.size));exact(h0.trans (h5.mono h0.size)).trans (h4.mono (Nat.le_trans h0.size h5.size))
theorem open_end {wr w10 w11 w12 w13:World} {N' :Nat} {kind size slide a:Int} {b:List Int} (h0:Below w.heap.size w wr) (h1:Below wr.heap.size wr w10) (h2:To (fun k=>wr.heap.size≤k∧k<w10.heap.size) w10 w11 N' q ⟨kind,size,slide,a,openL kind a b⟩) (h3:Below w11.heap.size w11 w12) (h4:Below w12.heap.size w12 w13) (hok:OpenOk kind a b) (hN:N'≤b.length):
  Below w.heap.size w w13∧((¬OpenOk kind a b∧Ending.returned (.tuple #[.pointer (some ⟨q,0,none⟩),.int .i64 0])= .returned (.tuple #[.pointer none,.int .i64 120]))∨(OpenOk kind a b∧ ∃q' N',Ending.returned (.tuple #[.pointer (some ⟨q,0,none⟩),.int .i64 0])= .returned (.tuple #[.pointer (some ⟨q',0,none⟩),.int .i64 0])∧N'≤b.length∧IsS (fun k=>w.heap.size≤k∧k<w13.heap.size) N' w13 q' ⟨kind,size,slide,a,openL kind a b⟩)):=by
 have s0:=h0.size;have s1:=h1.size;have s2:=h2.fr.size;have s3:=h3.size;have s4:=h4.size;refine⟨open_below h0 h1 h2 h3 h4,Or.inr ⟨hok,q,N',rfl,hN,((h2.is.below h3).below h4).mono (fun k hk=> ?_) (fun k hk=>hk.2) (Nat.le_refl _) h2.is.small⟩⟩;rcases hk with hk|hk
 ·omega
 ·omega
structure Lo (w w1:World) (l0:List Int) (Ar:Option Addr) (cr:Nat) (ps:List S70) (i:Nat) (wr:World) (v:Value):Prop where
 row:wr.ownsRow w1.heap.size 70 4 v ps.length (flatP ps)
 bl:Below w1.heap.size w1 wr
 byt:Byt w Ar (l0.drop (32*i))
 cap:(l0.drop (32*i)).length≤cr
def Top.T7:Bool×List (List Nat×List Nat):=(true,[([],[]),([],[]),([1],[1]),([2],[2]),([],[]),([4],[4]),([5,3],[5]),([],[]),([7],[7]),([8,6],[8]),([6,9],[6,9]),([],[]),([11],[11]),([12,9],[12]),([3,10,13],[3,10,13]),([14],[14]),([0,15,13],[0,15]),([16,16,0,1,2,3,4,5,6,7,8,9,10,11,12,13,14,15,16],[0,16])])
def Top.B7:List Nat:=[0,0,2,6,0,16,62,0,128,510,1022,0,2048,7166,16382,32766,65535,131071]
theorem Top.tab7:rtab .any (opsOf Try.f22 7)=Top.T7:=by kernel_rfl
theorem Top.bits7:waitsOk Top.T7.2 Top.B7=true:=by kernel_rfl
set_option maxHeartbeats 4000000 in
theorem Open_calls (w:World) (kind size slide a:Int) (A:Option Addr) (c:Nat) (b:List Int) (hC:Kd.C (Kd.int .u8) w A b.length b) (hc:b.length≤c) (hl:b.length≤10000000) (h8:In8 b):
    Calls Try.prog 22 #[aggW kind size slide,.int .i64 a,.slice A b.length c] w fun e w'=>Below w.heap.size w w'∧((¬OpenOk kind a b∧e= .returned (.tuple #[.pointer none,.int .i64 120]))∨(OpenOk kind a b∧ ∃q N',e= .returned (.tuple #[.pointer (some ⟨q,0,none⟩),.int .i64 0])∧N'≤b.length∧IsS (fun k=>w.heap.size≤k∧k<w'.heap.size) N' w' q ⟨kind,size,slide,a,openL kind a b⟩)):=by
  have HC0:=Aside0.mk hC;have HL:=Aside0.mk hl;have HC:=Aside0.mk hc;have H8:=Aside0.mk h8;clear hC hl hc h8;by_cases hf:FormB b
  · obtain⟨n,hn⟩: ∃n,b.length=4+32*n:=⟨b.length / 32,by unfold FormB at hf;omega⟩
    have hN:=Aside0.mk hn;have hF:=Aside0.mk hf;have g1:decide ((b.length:Int)<4)=false:=decide_eq_false (by omega);have g2:Int.tmod (b.length:Int) 32=4:=by rw[mod32];omega
    have g3: ¬((b.length:Int)<4):=by omega
    clear hf hn;obtain⟨A9,c9,hcut,hB9,hc9⟩:=cut_rest (w:=w) (fun W hb=>Kd.C_below HC0.out hb) HC.out 4 (by omega);obtain⟨l0,hl0⟩: ∃l,b.drop 4=l:=⟨_,rfl⟩
    have HL0:=Aside0.mk hl0;rw[hl0] at hcut hB9 hc9;have hn0:l0.length=32*n:=by rw[←hl0,List.length_drop];have:=hN.out;omega
    rw[hn0] at hcut;have HN0:=Aside0.mk hn0;have HB9:=Aside0.mk hB9;have HC9:=Aside0.mk hc9;have HNL:Aside0 (n≤1000000):=⟨by have:=HL.out;have:=hN.out;omega⟩
    have hcut: ∀W,(Instr.slice 58 (.slice A b.length c) (some (.int .i64 4)) none none).run Try.prog W= .ok (.slice A9 (32*n) c9) W:=hcut;clear hl0 hn0 hB9 hc9;go_enter Try.func22,Try.ntmps22;go_wp2_with fail;have HW1:=Aside0.mk (heap_alloc_new w (.cells #[.int .i64 kind,.int .i64 size,.int .i64 slide] 23));have HBW:=Aside0.mk ((Below.refl w.heap.size w).alloc (Nat.le_refl _) (.cells #[.int .i64 kind,.int .i64 size,.int .i64 slide] 23));generalize (w.alloc (.cells #[.int .i64 kind,.int .i64 size,.int .i64 slide] 23))=w1 at HW1 HBW ⊢;have HLO:Aside0 (Lo w w1 l0 A9 c9 [] 0 w1 (.slice none 0 0)):=⟨⟨World.ownsRow_nil _ _ _ _,Below.refl _ _,by simpa using HB9.out,by simpa using HC9.out⟩⟩
    clear HB9 HC9 g1 g2 g3 hcut;go_loopg [8,9] n (fun kx s8 s9 wr=> ∃(i:Nat) (Ar:Option Addr) (cr:Nat),s9= .slice Ar (32*(n-i)) cr∧n-i≤kx∧i≤n∧Aside0 (Lo w w1 l0 Ar cr (parseN i l0) i wr s8))
    case atStart=>exact⟨0,A9,c9,rfl,by omega,by omega,HLO⟩
    case round=>
      clear HLO;obtain⟨i,Ar,cr,rfl,hkx,hi,HQ⟩:=hrel;by_cases hlt:i<n
      · have hlz:(((32*(n-i):Nat)):Int)>0:=by omega
        have hrl:(l0.drop (32*i)).length=32*(n-i):=by rw[List.length_drop,HN0.out];omega
        have hcut:=cut_of HQ.out.byt HQ.out.cap (by rw[hrl];omega);rw[hrl] at hcut;obtain⟨B0,d0,r0,K0⟩:=hcut.p0;obtain⟨B1,d1,r1,K1⟩:=hcut.p1;obtain⟨B2,d2,r2,K2⟩:=hcut.p2;obtain⟨B3,d3,r3,K3⟩:=hcut.p3;obtain⟨z,hz⟩: ∃z,paneOf (l0.drop (32*i))=z:=⟨_,rfl⟩
        have hz0:takenP ((l0.drop (32*i)).take 8)=z.f0:=by rw[←hz];rfl
        have hz1:takenP (((l0.drop (32*i)).take 16).drop 8)=z.f1.f0:=by rw[←hz];rfl
        have hz2:takenP (((l0.drop (32*i)).take 24).drop 16)=z.f1.f1:=by rw[←hz];rfl
        have hz3:takenP (((l0.drop (32*i)).take 32).drop 24)=z.f2:=by rw[←hz];rfl
        rw[hz0] at K0;rw[hz1] at K1;rw[hz2] at K2;rw[hz3] at K3;obtain⟨A10,c10,hrest,hB10,hc10⟩:=cut_rest HQ.out.byt HQ.out.cap 32 (by rw[hrl];omega);rw[hrl,List.drop_drop,show 32*i+32=32*(i+1) from by omega] at hrest;rw[List.drop_drop,show 32*i+32=32*(i+1) from by omega] at hB10 hc10;rw[show(l0.drop (32*(i+1))).length=32*(n- (i+1)) from by rw[List.length_drop,HN0.out];omega] at hrest;have hrest: ∀W,(Instr.slice 58 (.slice Ar (32*(n-i)) cr) (some (.int .i64 32)) none none).run Try.prog W= .ok (.slice A10 (32*(n- (i+1))) c10) W:=hrest;have HP:Aside0 (parseN (i+1) l0=parseN i l0++[z]):=⟨by rw[parseN_snoc,hz]⟩
        have HB10:=Aside0.mk hB10;have HC10:=Aside0.mk hc10;have K0:=Aside0.mk K0;have K1:=Aside0.mk K1;have K2:=Aside0.mk K2;have K3:=Aside0.mk K3;have HI1:=Aside0.mk (And.intro hkx (And.intro hi hlt));clear hkx hi hlt hz hz0 hz1 hz2 hz3 hrl hcut hB10 hc10;go_wp2_with fail;refine start_ (n:=18) (S:=fun w'=>True) (ds:=[]) #[false,false,false,false,false,false,false,false,false,false,false,false,false,false,false,false,false,false] (by kernel_rfl) rfl rfl trivial (fun hHeld=> ?_);refine with_tabW Top.tab7 Top.bits7 (fun HT_ HW_=> ?_);have HBd:=Aside0.mk (HQ.out.bl.drew);have HOd:=Aside0.mk (pw_own_below HQ.out.row (below_drew (Below.refl wr.heap.size wr)));generalize World.drew wr=w3 at HBd HOd hHeld ⊢;refine pure_ (i:=0) (N:=some 27) (v:= ?_) (a' := ?_) #[true,false,false,false,false,false,false,false,false,false,false,false,false,false,false,false,false,false] rfl rfl (any_of HT_.out (by kernel_rfl)) (fun _ _ _ h=>h) (Or.inl ⟨by rfl,?_⟩) ?_ ?_;rotate_left
        · intro w'
          go_simp
          with_reducible rfl
        rotate_left
        · simp only[Act.put,List.setIfInBounds_toArray,List.set_cons_zero,List.set_cons_succ,i64_w,i32_w]
          rfl
        refine pure_ (i:=1) (N:=some 28) (v:= ?_) (a' := ?_) #[true,true,false,false,false,false,false,false,false,false,false,false,false,false,false,false,false,false] rfl rfl (any_of HT_.out (by kernel_rfl)) (fun _ _ _ h=>h) (Or.inl ⟨by rfl,?_⟩) ?_ ?_;rotate_left
        · intro w'
          go_simp
          with_reducible rfl
        rotate_left
        · simp only[Act.put,List.setIfInBounds_toArray,List.set_cons_zero,List.set_cons_succ,i64_w,i32_w]
          rfl
        refine pure_ (i:=2) (N:=some 29) (v:= ?_) (a' := ?_) #[true,true,true,false,false,false,false,false,false,false,false,false,false,false,false,false,false,false] rfl rfl (any_of HT_.out (by kernel_rfl)) (fun _ _ _ h=>h) (Or.inl ⟨by rfl,?_⟩) ?_ ?_;rotate_left
        · intro w'
          go_simp
          with_reducible rfl
        rotate_left
        · simp only[Act.put,List.setIfInBounds_toArray,List.set_cons_zero,List.set_cons_succ,i64_w,i32_w]
          rfl
        refine pure_ (i:=4) (N:=some 31) (v:= ?_) (a' := ?_) #[true,true,true,false,true,false,false,false,false,false,false,false,false,false,false,false,false,false] rfl rfl (any_of HT_.out (by kernel_rfl)) (fun _ _ _ h=>h) (Or.inl ⟨by rfl,?_⟩) ?_ ?_;rotate_left
        · intro w'
          go_simp
          with_reducible rfl
        rotate_left
        · simp only[Act.put,List.setIfInBounds_toArray,List.set_cons_zero,List.set_cons_succ,i64_w,i32_w]
          rfl
        refine pure_ (i:=5) (N:=some 32) (v:= ?_) (a' := ?_) #[true,true,true,false,true,true,false,false,false,false,false,false,false,false,false,false,false,false] rfl rfl (any_of HT_.out (by kernel_rfl)) (fun _ _ _ h=>h) (Or.inl ⟨by rfl,?_⟩) ?_ ?_;rotate_left
        · intro w'
          go_simp
          with_reducible rfl
        rotate_left
        · simp only[Act.put,List.setIfInBounds_toArray,List.set_cons_zero,List.set_cons_succ,i64_w,i32_w]
          rfl
        refine pure_ (i:=7) (N:=some 34) (v:= ?_) (a' := ?_) #[true,true,true,false,true,true,false,true,false,false,false,false,false,false,false,false,false,false] rfl rfl (any_of HT_.out (by kernel_rfl)) (fun _ _ _ h=>h) (Or.inl ⟨by rfl,?_⟩) ?_ ?_;rotate_left
        · intro w'
          go_simp
          with_reducible rfl
        rotate_left
        · simp only[Act.put,List.setIfInBounds_toArray,List.set_cons_zero,List.set_cons_succ,i64_w,i32_w]
          rfl
        refine pure_ (i:=8) (N:=some 35) (v:= ?_) (a' := ?_) #[true,true,true,false,true,true,false,true,true,false,false,false,false,false,false,false,false,false] rfl rfl (any_of HT_.out (by kernel_rfl)) (fun _ _ _ h=>h) (Or.inl ⟨by rfl,?_⟩) ?_ ?_;rotate_left
        · intro w'
          go_simp
          with_reducible rfl
        rotate_left
        · simp only[Act.put,List.setIfInBounds_toArray,List.set_cons_zero,List.set_cons_succ,i64_w,i32_w]
          rfl
        refine pure_ (i:=11) (N:=some 38) (v:= ?_) (a' := ?_) #[true,true,true,false,true,true,false,true,true,false,false,true,false,false,false,false,false,false] rfl rfl (any_of HT_.out (by kernel_rfl)) (fun _ _ _ h=>h) (Or.inl ⟨by rfl,?_⟩) ?_ ?_;rotate_left
        · intro w'
          go_simp
          with_reducible rfl
        rotate_left
        · simp only[Act.put,List.setIfInBounds_toArray,List.set_cons_zero,List.set_cons_succ,i64_w,i32_w]
          rfl
        refine pure_ (i:=12) (N:=some 39) (v:= ?_) (a' := ?_) #[true,true,true,false,true,true,false,true,true,false,false,true,true,false,false,false,false,false] rfl rfl (any_of HT_.out (by kernel_rfl)) (fun _ _ _ h=>h) (Or.inl ⟨by rfl,?_⟩) ?_ ?_;rotate_left
        · intro w'
          go_simp
          with_reducible rfl
        rotate_left
        · simp only[Act.put,List.setIfInBounds_toArray,List.set_cons_zero,List.set_cons_succ,i64_w,i32_w]
          rfl
        clear r0 r1 r2 r3;refine one_ (i:=3) (N:=some 30) #[true,true,true,true,true,true,false,true,true,false,false,true,true,false,false,false,false,false] rfl rfl (one_of HT_.out (by kernel_rfl)) (by decide) (fun K hK=> ?_);refine goes_ Try.func48 (by kernel_rfl) rfl #[.slice B0 8 d0] (by rfl) rfl rfl (by(try simp only[List.map_toArray,List.map_cons,List.map_nil]);first|done|rfl) ?_;refine(K0.out _ (HBW.out.trans (HBd.out.mono HBW.out.size))).mono ?_;rintro e w4 ⟨rfl,hd0⟩;refine⟨_,rfl,?_⟩;have HBd:=Aside0.mk (HBd.out.trans (hd0.below.mono HBd.out.size));have HOd:=Aside0.mk (pw_own_below HOd.out hd0.below);clear hd0 K0;refine hK.out _ _ trivial (fun hHeld=> ?_);clear hK K;refine norm_ (a' := ?_) ?_ ?_;rotate_left
        · show Act.put _ (some 30) _=_
          simp only[Act.put,List.setIfInBounds_toArray,List.set_cons_zero,List.set_cons_succ,i64_w,i32_w];rfl
        refine one_ (i:=6) (N:=some 33) #[true,true,true,true,true,true,true,true,true,false,false,true,true,false,false,false,false,false] rfl rfl (one_of HT_.out (by kernel_rfl)) (by decide) (fun K hK=> ?_);refine goes_ Try.func48 (by kernel_rfl) rfl #[.slice B1 8 d1] (by rfl) rfl rfl (by(try simp only[List.map_toArray,List.map_cons,List.map_nil]);first|done|rfl) ?_;refine(K1.out _ (HBW.out.trans (HBd.out.mono HBW.out.size))).mono ?_;rintro e w5 ⟨rfl,hd1⟩;refine⟨_,rfl,?_⟩;have HBd:=Aside0.mk (HBd.out.trans (hd1.below.mono HBd.out.size));have HOd:=Aside0.mk (pw_own_below HOd.out hd1.below);clear hd1 K1;refine hK.out _ _ trivial (fun hHeld=> ?_);clear hK K;refine norm_ (a' := ?_) ?_ ?_;rotate_left
        · show Act.put _ (some 33) _=_
          simp only[Act.put,List.setIfInBounds_toArray,List.set_cons_zero,List.set_cons_succ,i64_w,i32_w];rfl
        refine one_ (i:=9) (N:=some 36) #[true,true,true,true,true,true,true,true,true,true,false,true,true,false,false,false,false,false] rfl rfl (one_of HT_.out (by kernel_rfl)) (by decide) (fun K hK=> ?_);refine goes_ Try.func48 (by kernel_rfl) rfl #[.slice B2 8 d2] (by rfl) rfl rfl (by(try simp only[List.map_toArray,List.map_cons,List.map_nil]);first|done|rfl) ?_;refine(K2.out _ (HBW.out.trans (HBd.out.mono HBW.out.size))).mono ?_;rintro e w6 ⟨rfl,hd2⟩;refine⟨_,rfl,?_⟩;have HBd:=Aside0.mk (HBd.out.trans (hd2.below.mono HBd.out.size));have HOd:=Aside0.mk (pw_own_below HOd.out hd2.below);clear hd2 K2;refine hK.out _ _ trivial (fun hHeld=> ?_);clear hK K;refine norm_ (a' := ?_) ?_ ?_;rotate_left
        · show Act.put _ (some 36) _=_
          simp only[Act.put,List.setIfInBounds_toArray,List.set_cons_zero,List.set_cons_succ,i64_w,i32_w];rfl
        refine pure_ (i:=10) (N:=some 37) (v:= ?_) (a' := ?_) #[true,true,true,true,true,true,true,true,true,true,true,true,true,false,false,false,false,false] rfl rfl (any_of HT_.out (by kernel_rfl)) (fun _ _ _ h=>h) (Or.inl ⟨by rfl,?_⟩) ?_ ?_;rotate_left
        · intro w'
          go_simp
          with_reducible rfl
        rotate_left
        · simp only[Act.put,List.setIfInBounds_toArray,List.set_cons_zero,List.set_cons_succ,i64_w,i32_w]
          rfl
        refine one_ (i:=13) (N:=some 40) #[true,true,true,true,true,true,true,true,true,true,true,true,true,true,false,false,false,false] rfl rfl (one_of HT_.out (by kernel_rfl)) (by decide) (fun K hK=> ?_);refine goes_ Try.func48 (by kernel_rfl) rfl #[.slice B3 8 d3] (by rfl) rfl rfl (by(try simp only[List.map_toArray,List.map_cons,List.map_nil]);first|done|rfl) ?_;refine(K3.out _ (HBW.out.trans (HBd.out.mono HBW.out.size))).mono ?_;rintro e w7 ⟨rfl,hd3⟩;refine⟨_,rfl,?_⟩;have HBd:=Aside0.mk (HBd.out.trans (hd3.below.mono HBd.out.size));have HOd:=Aside0.mk (pw_own_below HOd.out hd3.below);clear hd3 K3;refine hK.out _ _ trivial (fun hHeld=> ?_);clear hK K;refine norm_ (a' := ?_) ?_ ?_;rotate_left
        · show Act.put _ (some 40) _=_
          simp only[Act.put,List.setIfInBounds_toArray,List.set_cons_zero,List.set_cons_succ,i64_w,i32_w];rfl
        refine pure_ (i:=14) (N:=some 41) (v:= ?_) (a' := ?_) #[true,true,true,true,true,true,true,true,true,true,true,true,true,true,true,false,false,false] rfl rfl (any_of HT_.out (by kernel_rfl)) (fun _ _ _ h=>h) (Or.inl ⟨by rfl,?_⟩) ?_ ?_;rotate_left
        · intro w'
          go_simp
          with_reducible rfl
        rotate_left
        · simp only[Act.put,List.setIfInBounds_toArray,List.set_cons_zero,List.set_cons_succ,i64_w,i32_w]
          rfl
        refine one_ (i:=15) (N:=some 42) #[true,true,true,true,true,true,true,true,true,true,true,true,true,true,true,true,false,false] rfl rfl (one_of HT_.out (by kernel_rfl)) (by decide) (fun K hK=> ?_);refine value_ (v:= .slice (some ⟨w7.heap.size,0,none⟩) 1 1) (w1:=w7.alloc (.cells #[.int .i64 z.f0,.int .i64 z.f1.f0,.int .i64 z.f1.f1,.int .i64 z.f2] 70)) (by rfl) rfl ?_ ?_
        · go_simp
          first|done|rfl|simp[Result.andThen]
        have HNB:=Aside0.mk (heap_alloc_new w7 (.cells #[.int .i64 z.f0,.int .i64 z.f1.f0,.int .i64 z.f1.f1,.int .i64 z.f2] 70));have HBd:=Aside0.mk (HBd.out.alloc HBd.out.size (.cells #[.int .i64 z.f0,.int .i64 z.f1.f0,.int .i64 z.f1.f1,.int .i64 z.f2] 70));have HOd:=Aside0.mk (pw_own_below HOd.out ((Below.refl w7.heap.size w7).alloc (Nat.le_refl _) (.cells #[.int .i64 z.f0,.int .i64 z.f1.f0,.int .i64 z.f1.f1,.int .i64 z.f2] 70)));refine hK.out _ _ trivial (fun hHeld=> ?_);clear hK K;refine norm_ (a' := ?_) ?_ ?_;rotate_left
        · show Act.put _ (some 42) _=_
          simp only[Act.put,List.setIfInBounds_toArray,List.set_cons_zero,List.set_cons_succ,i64_w,i32_w];rfl
        refine one_ (i:=16) (N:=some 43) #[true,true,true,true,true,true,true,true,true,true,true,true,true,true,true,true,true,false] rfl rfl (one_of HT_.out (by kernel_rfl)) (by decide) (fun K hK=> ?_);obtain⟨v8,w8,hrun8,ho8,hg8⟩:=app70 HOd.out HBd.out.size z _ HNB.out (by rw[parseN_len];have:=HNL.out;have:=HI1.out;omega) 44;have HB8:=Aside0.mk (HBd.out.grown hg8 HBd.out.size (fun k e=>(HOd.out.lt k e).1));have HO8:=Aside0.mk ho8;refine bapp_ #[u8,.slice (some ⟨w7.heap.size,0,none⟩) 1 1] (by rfl) (by(try simp only[List.map_toArray,List.map_cons,List.map_nil]);first|done|rfl) (by rfl) rfl hrun8 ?_;clear hrun8 ho8 hg8;refine hK.out _ _ trivial (fun hHeld=> ?_);clear hK K;refine norm_ (a' := ?_) ?_ ?_;rotate_left
        · show Act.put _ (some 43) _=_
          simp only[Act.put,List.setIfInBounds_toArray,List.set_cons_zero,List.set_cons_succ,i64_w,i32_w];rfl
        refine pure_ (i:=17) (N:=some 8) (v:= ?_) (a' := ?_) #[true,true,true,true,true,true,true,true,true,true,true,true,true,true,true,true,true,true] rfl rfl (any_of HT_.out (by kernel_rfl)) (fun _ _ _ h=>h) (Or.inl ⟨by rfl,?_⟩) ?_ ?_;rotate_left
        · intro w'
          go_simp
          with_reducible rfl
        rotate_left
        · simp only[Act.put,List.setIfInBounds_toArray,List.set_cons_zero,List.set_cons_succ,i64_w,i32_w]
          rfl
        refine done_ (done_of HT_.out (by kernel_rfl)) ?_;clear hHeld HOd HBd HNB;go_wp2_with fail;go_roundg (n- (i+1))
        case measure=>have:=HI1.out;omega
        case rel=>
          refine⟨i+1,A10,c10,rfl,Nat.le_refl _,HI1.out.2.2,⟨⟨?_,HB8.out,HB10.out,HC10.out⟩⟩⟩;rw[HP.out,List.length_append,List.length_singleton];exact HO8.out
      · have hlz: ¬((((32*(n-i):Nat)):Int)>0):=by omega
        have hz2:decide ((0:Int)<32*((n-i:Nat):Int))=false:=decide_eq_false (by omega);have hni:i=n:=by omega
        clear hlt hkx hi;subst hni;have hO:=HQ.out.row;have hpl:=parseN_len i l0;obtain⟨A8,c8,rfl⟩:=own_slice hO;have hR:=R_flat hO;have HR:=Aside0.mk hR;rw[hpl] at hR
        have HE:Aside0 (openL kind a b=loadL a (loadOf kind a (parseN i l0))):=⟨by
          have e:(b.length-4)/ 32=i:=by have:=hN.out;omega
          rw[openL,readB,e,HL0.out]⟩
        have HBA:=Aside0.mk (HBW.out.trans (HQ.out.bl.mono HBW.out.size));have hw:=blk_below HW1.out HQ.out.bl;have k0:=(blk_cell hw 0).trans rfl;have k1:=(blk_cell hw 1).trans rfl;have k2:=(blk_cell hw 2).trans rfl;rw[hpl];have hpl2:=Aside0.mk hpl;clear hO hR hw hpl
        go_wp2_with (first
          | (go_at_call 11
             refine(New_calls wr kind size slide a).mono ?_;rintro e w10 ⟨q,rfl,hI,hb⟩;have HI:=Aside0.mk hI;have HBN:=Aside0.mk hb;clear hI hb)
          | (go_at_call 20
             have hF:=Kd.F_step (Kd.F_mono (Kd.R_F (Kd.R_bound HR.out)) (fun k hk=>And.intro hk.2.1 hk.2.2.1)) (fun k hk hlt=>HBN.out.block k hlt);have KL:=Load_calls HI.out A8 c8 (parseN i l0) _ hF (Kd.R_reads' HR.out).2.1 (fun k hk=>⟨fun hf=>by have:=hk.2;have:=hf.1;omega,Nat.lt_of_lt_of_le hk.2 HBN.out.size⟩) (parseN_64 _ _) (by rw[hpl2.out];exact HNL.out);rw[hpl2.out] at KL;refine KL.mono ?_;clear KL;rintro e w11 ⟨rfl,hto⟩;rw[←HE.out] at hto;have HTO:=Aside0.mk hto;clear hto hF)
          | (go_at_call 23
             refine(Bytes_calls HTO.out.is).mono ?_;rintro e w12 ⟨v12,rfl,hR,hb⟩;obtain⟨A12,c12,rfl⟩:=Kd.R_slice hR;have HR12:=Aside0.mk hR;have HB12:=Aside0.mk hb;clear hR hb)
          | (go_at_call 49
             refine(bytes_Equal.calls A12 c12 _ A c b _ w12 (Kd.R_reads' HR12.out).2.2 (Kd.R_reads' HR12.out).2.1 (Kd.C_below HC0.out (HBA.out.trans ((HBN.out.trans (((HTO.out.fr.toBelow (B:=wr.heap.size) HBN.out.size (fun k _ hk=>hk.1)).trans (HB12.out.mono (Nat.le_trans HBN.out.size HTO.out.fr.size))))).mono HBA.out.size))) HC.out (equal_f (bytesB_8 _) H8.out)).mono ?_;rintro e w13 ⟨rfl,hd⟩;have HD:=Aside0.mk hd.below;clear hd;rcases dec2 (P:=bytesB (sortP (openL kind a b))=b) with ⟨hdq,HQE⟩|⟨hdq,HQE⟩
             all_goals (rw[hdq])
             all_goals (clear hdq)))
        · go_ret2
          exact open_end HBA.out HBN.out HTO.out HB12.out HD.out ⟨hF.out,HQE.out⟩ (Nat.le_trans (loadOf_len _ _ _) (by rw[hpl2.out];have:=hN.out;omega))
        · go_ret2
          refine⟨?_,Or.inl ⟨fun h=>HQE.out h.2,rfl⟩⟩;exact open_below HBA.out HBN.out HTO.out HB12.out HD.out
  · by_cases h4:(b.length:Int)<4
    · have hF:=Aside0.mk hf
      clear hf;go_enter Try.func22,Try.ntmps22;go_wp2;go_ret2;exact⟨(Below.refl w.heap.size w).alloc (Nat.le_refl _) _,Or.inl ⟨fun h=>hF.out h.1,rfl⟩⟩
    · have g2: ¬Int.tmod (b.length:Int) 32=4:=by rw[mod32];unfold FormB at hf;omega
      have g3:((b.length:Int) % 32 !=4)=true:=by
        rw[mod32] at g2;have: ¬((b.length:Int) % 32=4):=by omega
        simpa using this
      have hF:=Aside0.mk hf;clear hf;go_enter Try.func22,Try.ntmps22;go_wp2;go_ret2;exact⟨(Below.refl w.heap.size w).alloc (Nat.le_refl _) _,Or.inl ⟨fun h=>hF.out h.1,rfl⟩⟩
end Go.Proofs.Ytjegeghigfmkoaa.T
namespace Go.Proofs.Ytjegeghigfmkoaa.T
open Go.RowKit Go.Maps Go.Sort Go.Proofs Go.Proofs.Ytjegeghigfmkoaa Go.Proofs.Ytjegeghigfmkoaa.X Go.Proofs.YtjegeghigfmkoaaW.PrintWords Go.Proofs.YtjegeghigfmkoaaW.PrintLast Go.Proofs.YtjegeghigfmkoaaW.PrintMore
set_option linter.unusedVariables false
set_option linter.unusedSimpArgs false
set_option maxRecDepth 100000
variable {F:Nat→Prop} {N:Nat} {w w' :World} {q b1 b2:Nat} {tv:Value} {tm:List Int} {s:St}
def grp (x:Int):Int:=wrap64 ((IntKind.u64.wrap ((IntKind.u64.wrap x)*11400714819323198485))/ 1152921504606846976)
def other (g:Int) (p:S70):Bool:=grp p.f0 !=g
def Tgr.T1:Bool×List (List Nat×List Nat):=(true,[([],[]),([0],[0]),([1],[1]),([],[]),([2,3],[2,3]),([4,2,0,1,2,3,4],[4])])
def Tgr.B1:List Nat:=[0,1,3,0,15,31]
theorem Tgr.tab1:rtab .any (opsOf Try.f55 1)=Tgr.T1:=by kernel_rfl
theorem Tgr.bits1:waitsOk Tgr.T1.2 Tgr.B1=true:=by kernel_rfl
end Go.Proofs.Ytjegeghigfmkoaa.T
namespace Go.Proofs.Ytjegeghigfmkoaa.T
open Go.RowKit Go.Maps Go.Sort Go.Proofs Go.Proofs.Ytjegeghigfmkoaa Go.Proofs.Ytjegeghigfmkoaa.X Go.Proofs.YtjegeghigfmkoaaW.PrintWords Go.Proofs.YtjegeghigfmkoaaW.PrintLast Go.Proofs.YtjegeghigfmkoaaW.PrintMore
set_option linter.unusedVariables false
set_option linter.unusedSimpArgs false
set_option maxRecDepth 100000
variable {F:Nat→Prop} {N:Nat} {w w' :World} {q b1 b2:Nat} {tv:Value} {tm:List Int} {s:St}
theorem row_set {W:World} {base:Nat} {ok:Nat→Prop} {g n cap:Nat} {d:List S70} (h:Kd.R k70 70 W base ok (.slice (some ⟨g,0,none⟩) n cap) d) (i:Nat) (hi:i<n) (z:S70):
  Kd.R k70 70 ((((W.setCell ⟨g,i*4,none⟩ (.int .i64 z.f0)).setCell ⟨g,i*4+1,none⟩ (.int .i64 z.f1.f0)).setCell ⟨g,i*4+2,none⟩ (.int .i64 z.f1.f1)).setCell ⟨g,i*4+3,none⟩ (.int .i64 z.f2)) base ok (.slice (some ⟨g,0,none⟩) n cap) (d.set i z):=by
 obtain⟨c,h1,h2,h3,h4⟩:=Kd.R_elem h z70 (i:Int) (by omega) (by omega)
 have:=(Kd.R_seg h (i:Int) (by omega) (by omega) (seg:=[.int .i64 z.f0,.int .i64 z.f1.f0,.int .i64 z.f1.f1,.int .i64 z.f2]) (j:=0) h1 h3 (show 4≤4 from by decide) (x' :=z) (by
  obtain rfl:=k70_openM h2;exact k70_mkM _ _ _ z) (fun _ hk=>hk)).1
 exact this
structure Ldf (g0:Int) (w:World) (base:Nat) (ok:Nat→Prop) (g n cap:Nat) (l:List S70) (i j:Nat) (wr:World) (d:List S70):Prop where
 row:Kd.R k70 70 wr base ok (.slice (some ⟨g,0,none⟩) n cap) d
 pre:d.take i=(l.take j).filter (fun p=> !other g0 p)
 post:d.drop j=l.drop j
 bl:Below base w wr
theorem Ldf.keep {g0:Int} {base:Nat} {ok:Nat→Prop} {g n cap:Nat} {l:List S70} {i j:Nat} {wr w2:World} {d:List S70} (h:Ldf g0 w base ok g n cap l i j wr d) (hb:Below wr.heap.size wr w2) (hbs:base≤wr.heap.size):Ldf g0 w base ok g n cap l i j w2 d:=
 ⟨Kd.R_below h.row hb,h.pre,h.post,h.bl.trans (hb.mono hbs)⟩
theorem Ldf.skip {g0:Int} {base:Nat} {ok:Nat→Prop} {g n cap:Nat} {l:List S70} {i j:Nat} {wr:World} {d:List S70} (h:Ldf g0 w base ok g n cap l i j wr d) {z:S70} (hz:l[j]? =some z) (ho:other g0 z=true):Ldf g0 w base ok g n cap l i (j+1) wr d:=by
 refine⟨h.row,?_,?_,h.bl⟩
 ·rw[h.pre,List.take_add_one,hz];simp[ho]
 ·rw[←List.drop_drop,h.post,List.drop_drop]
theorem Ldf.put {g0:Int} {base:Nat} {ok:Nat→Prop} {g n cap:Nat} {l:List S70} {i j:Nat} {wr:World} {d:List S70} (h:Ldf g0 w base ok g n cap l i j wr d) (hg:base≤g) (hij:i<j) (hj:j<n) {z:S70} (hz:l[j]? =some z) (ho:other g0 z=false):
  Ldf g0 w base ok g n cap l (i+1) (j+1) ((((wr.setCell ⟨g,i*4,none⟩ (.int .i64 z.f0)).setCell ⟨g,i*4+1,none⟩ (.int .i64 z.f1.f0)).setCell ⟨g,i*4+2,none⟩ (.int .i64 z.f1.f1)).setCell ⟨g,i*4+3,none⟩ (.int .i64 z.f2)) (d.set i z):=by
 have hn:=(Kd.R_reads' h.row).1;refine⟨row_set h.row i (by omega) z,?_,?_,(((h.bl.setCell (p:=⟨g,i*4,none⟩) hg _).setCell (p:=⟨g,i*4+1,none⟩) hg _).setCell (p:=⟨g,i*4+2,none⟩) hg _).setCell (p:=⟨g,i*4+3,none⟩) hg _⟩
 ·rw[List.take_add_one,List.take_set_of_le (Nat.le_refl i),h.pre,List.take_add_one,hz,List.getElem?_set_self (by omega)];simp[ho]
 ·rw[List.drop_set_of_lt (by omega),←List.drop_drop,h.post,List.drop_drop]
end Go.Proofs.Ytjegeghigfmkoaa.T
namespace Go.Proofs.Ytjegeghigfmkoaa.T
open Go.RowKit Go.Maps Go.Sort Go.Proofs Go.Proofs.Ytjegeghigfmkoaa Go.Proofs.Ytjegeghigfmkoaa.X Go.Proofs.YtjegeghigfmkoaaW.PrintWords Go.Proofs.YtjegeghigfmkoaaW.PrintLast Go.Proofs.YtjegeghigfmkoaaW.PrintMore
set_option linter.unusedVariables false
set_option linter.unusedSimpArgs false
set_option maxRecDepth 100000
variable {w w' :World}
theorem app70b {w:World} {base:Nat} {v:Value} {ps:List S70} (ho:w.ownsRow base 70 4 v ps.length (flatP ps)) (hb:base≤w.heap.size) (p:S70) (B:Nat) (hB:w.heap[B]? =some (.cells #[.int .i64 p.f0,.int .i64 p.f1.f0,.int .i64 p.f1.f1,.int .i64 p.f2] 70 (0,0))) (hn:ps.length<4398046511104) (ty:TypeId):
  ∃v' w',(Builtin.append_ #[44,44] ty #[v,.slice (some ⟨B,0,none⟩) 1 1]).run Try.prog w= .ok v' w'∧w'.ownsRow base 70 4 v' (ps++[p]).length (flatP (ps++[p]))∧w.grownBy w' v.ownBlock∧(v'.ownBlock=v.ownBlock∨v'.ownBlock=some w.heap.size):=by
 obtain⟨i0,hi,hz0,hz1,hz2⟩:=info_parts info70;have hadd: ∀j,((⟨B,0,none⟩:Addr).add j)=⟨B,j,none⟩:=fun j=>by unfold Addr.add;split<;>simp_all
 obtain⟨v',w',g1,g2,g3,_,g5⟩:=run_append_own_at (P:=Try.prog) w base 44 ty 70 i0 _ 4 _ Try.underlying44 hi hz0 hz1 hz2 rfl (by decide) v ps.length (flatP ps) ho ⟨B,0,none⟩ 1 1 [.int .i64 p.f0,.int .i64 p.f1.f0,.int .i64 p.f1.f1,.int .i64 p.f2] rfl (fun j u hj=>by
  rw[hadd];exact(blk_cell hB j).trans (by simpa using hj)) (by simp[Value.oneCell']) (by unfold maxLen;omega) (by omega) hb
 exact⟨v',w',g1,by rw[flatP_snoc,List.length_append];exact g2,g3,g5⟩
structure Lt38 (w:World) (B:Nat) (p:S70) (x:List S70) (v:Value) (wr:World):Prop where
 row:wr.ownsRow w.heap.size 70 4 v x.length (flatP x)
 box:wr.heap[B]? =some (.cells #[.int .i64 p.f0,.int .i64 p.f1.f0,.int .i64 p.f1.f1,.int .i64 p.f2] 70 (0,0))
 ne:v.ownBlock≠some B
 bl:Below w.heap.size w wr
 ge:w.heap.size≤B
theorem Lt38.below {B:Nat} {p:S70} {x:List S70} {v:Value} {wr:World} (h:Lt38 w B p x v wr) (hb:Below wr.heap.size wr w'):Lt38 w B p x v w' :=⟨pw_own_below h.row hb,blk_below h.box hb,h.ne,h.bl.trans (hb.mono h.bl.size),h.ge⟩
theorem Lt38.set {B:Nat} {p:S70} {x:List S70} {v:Value} {wr:World} (h:Lt38 w B p x v wr) (m:Int):Lt38 w B {p with f2:=m} x v (wr.setCell ⟨B,3,none⟩ (.int .i64 m)):=
 ⟨own_fr h.row (Fr.setCell (M:=fun k=>k=B) (Fr.refl _ wr) (p:=⟨B,3,none⟩) rfl _) (fun g hg e=>h.ne (e▸hg)),blk_set h.box 3 _,h.ne,h.bl.setCell (p:=⟨B,3,none⟩) h.ge _,h.ge⟩
theorem Lt38.app {B:Nat} {p:S70} {x:List S70} {v:Value} {wr:World} (h:Lt38 w B p x v wr) (z:S70) (hn:x.length<4398046511104) (ty:TypeId):
  ∃v' w',(Builtin.append_ #[44,44] ty #[v,.slice (some ⟨wr.heap.size,0,none⟩) 1 1]).run Try.prog (wr.alloc (.cells #[.int .i64 z.f0,.int .i64 z.f1.f0,.int .i64 z.f1.f1,.int .i64 z.f2] 70))= .ok v' w'∧Lt38 w B p (x++[z]) v' w' :=by
 have hal:Below wr.heap.size wr (wr.alloc (.cells #[.int .i64 z.f0,.int .i64 z.f1.f0,.int .i64 z.f1.f1,.int .i64 z.f2] 70)):=(Below.refl _ wr).alloc (Nat.le_refl _) _;have h2:=h.below hal;obtain⟨v',w',g1,g2,g3,g4⟩:=app70b h2.row h2.bl.size z wr.heap.size (blk_new wr _) hn ty;have hlt:=lt_of_block h2.box;refine⟨v',w',g1,⟨g2,(g3.block B hlt (fun e=>h.ne e.symm)).trans h2.box,fun e=> ?_,h2.bl.grown g3 h2.bl.size (fun k e=>(h2.row.lt k e).1),h.ge⟩⟩;rcases g4 with g4|g4
 ·exact h.ne (g4▸e)
 ·rw[g4] at e;have:=Option.some.inj e;omega
end Go.Proofs.Ytjegeghigfmkoaa.T
namespace Go.Proofs.Ytjegeghigfmkoaa.X
open Go.RowKit Go.Maps Go.Sort Go.Proofs Go.Proofs.Ytjegeghigfmkoaa Go.Proofs.Ytjegeghigfmkoaa.T Go.Proofs.YtjegeghigfmkoaaW.PrintWords Go.Proofs.YtjegeghigfmkoaaW.PrintLast Go.Proofs.YtjegeghigfmkoaaW.PrintMore
set_option linter.unusedVariables false
set_option linter.unusedSimpArgs false
set_option maxRecDepth 100000
attribute [local go_sem high] eqA68
def Tin.T1:Bool×List (List Nat×List Nat):=(true,[([],[]),([0],[0]),([],[]),([],[]),([],[]),([4],[4]),([],[]),([6],[6]),([3,5,7,5],[3,5,7]),([1,2,8],[1,2,8]),([],[]),([10,9,8,0,1,2,3,4,5,6,7,8,9,10],[9,10])])
def Tin.B1:List Nat:=[0,1,0,0,0,16,0,64,248,511,0,2047]
theorem Tin.tab1:rtab .any (opsOf Try.f38 1)=Tin.T1:=by kernel_rfl
theorem Tin.bits1:waitsOk Tin.T1.2 Tin.B1=true:=by kernel_rfl
def Tin.T9:Bool×List (List Nat×List Nat):=(true,[([],[]),([],[]),([1],[1]),([],[]),([],[]),([3,4],[3,4]),([5],[5]),([6],[6]),([0,2,7],[0,2,7]),([0,1,2,3,4,5,6,7,8],[]),([9,8,8,0,1,2,3,4,5,6,7,8],[8,9])])
def Tin.B9:List Nat:=[0,0,2,0,0,24,56,120,255,511,1023]
theorem Tin.tab9:rtab .any (opsOf Try.f38 9)=Tin.T9:=by kernel_rfl
theorem Tin.bits9:waitsOk Tin.T9.2 Tin.B9=true:=by kernel_rfl
set_option maxHeartbeats 8000000 in
theorem leatref11_Into.calls (k:Nat) (a0_0 a0_1 a0_2 a1:Int) (P2_:Nat→Prop) (u:Value) (l2:List S70) (a3_0 a3_1 a3_2 a4_0 a4_1:Int) (r:List S70) (w0 w:World) (hB:Below w0.heap.size w0 w) (ho2:Kd.R k70 70 w w0.heap.size P2_ u l2) (h:leatref11_Into.f k a0_0 a0_1 a0_2 a1 l2 a3_0 a3_1 a3_2 a4_0 a4_1=some r):
    Calls Try.prog 38 #[.agg #[.int .i64 a0_0,.int .i64 a0_1,.int .i64 a0_2],.int .i64 a1,u,.agg #[.int .i64 a3_0,.int .i64 a3_1,.int .i64 a3_2],.agg #[.int .i64 a4_0,.int .i64 a4_1]] w fun e w'=> ∃v0_:Value,e= .returned v0_∧Kd.R k70 70 w' w0.heap.size (fun k_=>(P2_ k_∨w.heap.size≤k_)) v0_ r∧Below w0.heap.size w0 w'∧Kept w w' (fun k_=>P2_ k_):=by
  obtain⟨A,c,rfl⟩:=Kd.R_slice ho2;obtain⟨z,hz,h⟩:=Option.bind_eq_some_iff.1 h;obtain⟨acc,ha,h⟩:=Option.bind_eq_some_iff.1 h;have HR0:=Aside0.mk ho2;have HB0:=Aside0.mk hB;have HZ:=Aside0.mk hz;have HA:=Aside0.mk ha;have HH:=Aside0.mk h;have HC:Aside0 (∀W,Below w.heap.size w W→Kd.C k70 W A l2.length l2):=⟨fun W hW=>Kd.C_below (Kd.R_reads' ho2).2.2 hW⟩
  clear ho2 hB hz ha h;go_enter Try.func38,Try.ntmps38;go_wp2_with fail;obtain⟨w1,hw1⟩: ∃W,((w.alloc (.cells #[.int .i64 a0_0,.int .i64 a0_1,.int .i64 a0_2] 23)).alloc (.cells #[.int .i64 a3_0,.int .i64 a3_1,.int .i64 a3_2] 39)).alloc (.cells #[.int .i64 a4_0,.int .i64 a4_1] 68)=W:=⟨_,rfl⟩
  have hs1:w1.heap.size=w.heap.size+1+1+1:=by rw[←hw1];simp
  have HB1:Aside0 (Below w.heap.size w w1):=⟨by rw[←hw1];exact(((Below.refl _ w).alloc (Nat.le_refl _) _).alloc (by simp) _).alloc (by simp;omega) _⟩
  have HK0:Aside0 (w1.heap[w.heap.size]? =some (.cells #[.int .i64 a0_0,.int .i64 a0_1,.int .i64 a0_2] 23 (0,0))):=⟨by rw[←hw1];exact blk_alloc (blk_alloc (blk_new w _) _) _⟩
  have HK1:Aside0 (w1.heap[w.heap.size+1]? =some (.cells #[.int .i64 a3_0,.int .i64 a3_1,.int .i64 a3_2] 39 (0,0))):=⟨by rw[←hw1];have:=blk_new (w.alloc (.cells #[.int .i64 a0_0,.int .i64 a0_1,.int .i64 a0_2] 23)) (.cells #[.int .i64 a3_0,.int .i64 a3_1,.int .i64 a3_2] 39);rw[World.size_alloc] at this;exact blk_alloc this _⟩
  have HK2:Aside0 (w1.heap[w.heap.size+1+1]? =some (.cells #[.int .i64 a4_0,.int .i64 a4_1] 68 (0,0))):=⟨by rw[←hw1];have:=blk_new ((w.alloc (.cells #[.int .i64 a0_0,.int .i64 a0_1,.int .i64 a0_2] 23)).alloc (.cells #[.int .i64 a3_0,.int .i64 a3_1,.int .i64 a3_2] 39)) (.cells #[.int .i64 a4_0,.int .i64 a4_1] 68);rw[World.size_alloc,World.size_alloc] at this;exact this⟩
  have HS1:=Aside0.mk hs1;rw[hw1];clear hw1 hs1;refine start_ (n:=12) (S:=fun w'=>w'.cell? ⟨w.heap.size+1,0,none⟩=some (.int .i64 a3_0)∧w'.cell? ⟨w.heap.size+1,2,none⟩=some (.int .i64 a3_2)∧w'.cell? ⟨w.heap.size+1+1,0,none⟩=some (.int .i64 a4_0)∧w'.cell? ⟨w.heap.size+1+1,1,none⟩=some (.int .i64 a4_1)) (ds:=[11]) #[false,false,false,false,false,false,false,false,false,false,false,false] (by kernel_rfl) rfl rfl ⟨(blk_cell HK1.out 0).trans rfl,(blk_cell HK1.out 2).trans rfl,(blk_cell HK2.out 0).trans rfl,(blk_cell HK2.out 1).trans rfl⟩ (fun hHeld=> ?_);refine with_tabW Tin.tab1 Tin.bits1 (fun HT_ HW_=> ?_);have HCELL:=Aside0.mk (show ∀W,Below w1.heap.size w1 W→W.cell? ⟨w.heap.size+1,0,none⟩=some (.int .i64 a3_0)∧W.cell? ⟨w.heap.size+1,2,none⟩=some (.int .i64 a3_2)∧W.cell? ⟨w.heap.size+1+1,0,none⟩=some (.int .i64 a4_0)∧W.cell? ⟨w.heap.size+1+1,1,none⟩=some (.int .i64 a4_1) from fun W hb=>⟨(blk_cell (blk_below HK1.out hb) 0).trans rfl,(blk_cell (blk_below HK1.out hb) 2).trans rfl,(blk_cell (blk_below HK2.out hb) 0).trans rfl,(blk_cell (blk_below HK2.out hb) 1).trans rfl⟩);have HBd:=Aside0.mk ((Below.refl w1.heap.size w1).drew);have KZ:=fun W=>leatref10_Zero.calls a1 z W HZ.out
  have KA:=fun W=>leatref10_Add.calls k a1 z a3_2 acc W HA.out
  generalize World.drew _=w3 at HBd hHeld ⊢;refine pure_ (i:=0) (N:=some 14) (v:= ?_) (a' := ?_) #[true,false,false,false,false,false,false,false,false,false,false,false] rfl rfl (any_of HT_.out (by kernel_rfl)) (fun _ _ _ h=>h) (Or.inl ⟨by rfl,?_⟩) ?_ ?_;rotate_left
  · intro w'
    go_simp
    with_reducible rfl
  rotate_left
  · simp only[Act.put,List.setIfInBounds_toArray,List.set_cons_zero,List.set_cons_succ,i64_w,i32_w]
    rfl
  refine take_ (i:=1) (N:=some 15) (v:= ?_) (a' := ?_) #[true,true,false,false,false,false,false,false,false,false,false,false] rfl rfl (take_ofW HT_.out HW_.out (by kernel_rfl)) (fun _ _ _ h=>h) (Or.inl ⟨by rfl,?_⟩) hHeld ?_ ?_;rotate_left
  · rintro w' ⟨s0,s1,s2,s3⟩
    go_simp
    with_reducible rfl
  rotate_left
  · simp only[Act.put,List.setIfInBounds_toArray,List.set_cons_zero,List.set_cons_succ,i64_w,i32_w]
    rfl
  refine take_ (i:=2) (N:=some 16) (v:= ?_) (a' := ?_) #[true,true,true,false,false,false,false,false,false,false,false,false] rfl rfl (take_ofW HT_.out HW_.out (by kernel_rfl)) (fun _ _ _ h=>h) (Or.inl ⟨by rfl,?_⟩) hHeld ?_ ?_;rotate_left
  · rintro w' ⟨s0,s1,s2,s3⟩
    go_simp
    with_reducible rfl
  rotate_left
  · simp only[Act.put,List.setIfInBounds_toArray,List.set_cons_zero,List.set_cons_succ,i64_w,i32_w]
    rfl
  refine pure_ (i:=3) (N:=some 17) (v:= ?_) (a' := ?_) #[true,true,true,true,false,false,false,false,false,false,false,false] rfl rfl (any_of HT_.out (by kernel_rfl)) (fun _ _ _ h=>h) (Or.inl ⟨by rfl,?_⟩) ?_ ?_;rotate_left
  · intro w'
    go_simp
    with_reducible rfl
  rotate_left
  · simp only[Act.put,List.setIfInBounds_toArray,List.set_cons_zero,List.set_cons_succ,i64_w,i32_w]
    rfl
  refine pure_ (i:=4) (N:=some 18) (v:= ?_) (a' := ?_) #[true,true,true,true,true,false,false,false,false,false,false,false] rfl rfl (any_of HT_.out (by kernel_rfl)) (fun _ _ _ h=>h) (Or.inl ⟨by rfl,?_⟩) ?_ ?_;rotate_left
  · intro w'
    go_simp
    with_reducible rfl
  rotate_left
  · simp only[Act.put,List.setIfInBounds_toArray,List.set_cons_zero,List.set_cons_succ,i64_w,i32_w]
    rfl
  refine pure_ (i:=6) (N:=some 20) (v:= ?_) (a' := ?_) #[true,true,true,true,true,false,true,false,false,false,false,false] rfl rfl (any_of HT_.out (by kernel_rfl)) (fun _ _ _ h=>h) (Or.inl ⟨by rfl,?_⟩) ?_ ?_;rotate_left
  · intro w'
    go_simp
    with_reducible rfl
  rotate_left
  · simp only[Act.put,List.setIfInBounds_toArray,List.set_cons_zero,List.set_cons_succ,i64_w,i32_w]
    rfl
  refine take_ (i:=7) (N:=some 21) (v:= ?_) (a' := ?_) #[true,true,true,true,true,false,true,true,false,false,false,false] rfl rfl (take_ofW HT_.out HW_.out (by kernel_rfl)) (fun _ _ _ h=>h) (Or.inl ⟨by rfl,?_⟩) hHeld ?_ ?_;rotate_left
  · rintro w' ⟨s0,s1,s2,s3⟩
    go_simp
    with_reducible rfl
  rotate_left
  · simp only[Act.put,List.setIfInBounds_toArray,List.set_cons_zero,List.set_cons_succ,i64_w,i32_w]
    rfl
  refine join_ (σ:=Nat) 1 #[true,true,true,true,true,true,true,true,true,true,true,false] (fun B=>[(19,.int .i64 z),(22,.int .i64 acc),(23,.agg #[.int .i64 a3_0,.int .i64 a4_0,.int .i64 a4_1,.int .i64 acc]),(11,.pointer (some ⟨B,0,none⟩))]) (fun B W=>(W.heap[B]? =some (.cells #[.int .i64 0,.int .i64 0,.int .i64 0,.int .i64 0] 70 (0,0))∧w1.heap.size≤B)∧Below w1.heap.size w1 W) ?_ ?_;rotate_left
  · intro hCont
    refine two_ (i:=5) (j:=10) (Ni:=(some 19)) (Nj:=(some 11)) #[true,true,true,true,true,true,true,true,false,false,false,false] #[true,true,true,true,true,false,true,true,false,false,true,false] rfl rfl rfl rfl (two_of HT_.out (by kernel_rfl)) (by decide) (by decide) (fun K hK=> ?_) (fun K hK=> ?_)
    · skip
      refine goes_ Try.func65 (by kernel_rfl) rfl #[.int .i64 a1] (by rfl) rfl rfl (by(try simp only[List.map_toArray,List.map_cons,List.map_nil]);first|done|rfl) ?_;refine(KZ _).mono ?_;rintro e w4 ⟨rfl,hd4⟩;refine⟨_,rfl,?_⟩;have HB4:=Aside0.mk (HBd.out.trans (hd4.below.mono HBd.out.size));clear hd4;refine hK.out _ _ (HCELL.out _ HB4.out) (fun hHeld=> ?_);clear hK K;refine norm_ (a' := ?_) ?_ ?_;rotate_left
      · show Act.put _ (some 19) _=_
        simp only[Act.put,List.setIfInBounds_toArray,List.set_cons_zero,List.set_cons_succ,i64_w,i32_w];rfl
      refine two_ (i:=8) (j:=10) (Ni:=(some 22)) (Nj:=(some 11)) #[true,true,true,true,true,true,true,true,true,false,false,false] #[true,true,true,true,true,true,true,true,false,false,true,false] rfl rfl rfl rfl (two_of HT_.out (by kernel_rfl)) (by decide) (by decide) (fun K hK=> ?_) (fun K hK=> ?_)
      · skip
        refine goes_ Try.func64 (by kernel_rfl) rfl #[.int .i64 a1,.int .i64 z,.int .i64 a3_2] (by rfl) rfl rfl (by(try simp only[List.map_toArray,List.map_cons,List.map_nil]);first|done|rfl) ?_;refine(KA _).mono ?_;rintro e w5 ⟨rfl,hb5⟩;refine⟨_,rfl,?_⟩;have HB5:=Aside0.mk (HB4.out.trans (hb5.mono HB4.out.size));clear hb5;refine hK.out _ _ (HCELL.out _ HB5.out) (fun hHeld=> ?_);clear hK K;refine norm_ (a' := ?_) ?_ ?_;rotate_left
        · show Act.put _ (some 22) _=_
          simp only[Act.put,List.setIfInBounds_toArray,List.set_cons_zero,List.set_cons_succ,i64_w,i32_w];rfl
        refine pure_ (i:=9) (N:=some 23) (v:= ?_) (a' := ?_) #[true,true,true,true,true,true,true,true,true,true,false,false] rfl rfl (any_of HT_.out (by kernel_rfl)) (fun _ _ _ h=>h) (Or.inl ⟨by rfl,?_⟩) ?_ ?_;rotate_left
        · intro w'
          go_simp
          with_reducible rfl
        rotate_left
        · simp only[Act.put,List.setIfInBounds_toArray,List.set_cons_zero,List.set_cons_succ,i64_w,i32_w]
          rfl
        refine one_ (i:=10) (N:=some 11) #[true,true,true,true,true,true,true,true,true,true,true,false] rfl rfl (one_of HT_.out (by kernel_rfl)) (by decide) (fun K hK=> ?_);refine value_ (v:= .pointer (some ⟨w5.heap.size,0,none⟩)) (w1:=w5.alloc (.cells #[.int .i64 0,.int .i64 0,.int .i64 0,.int .i64 0] 70)) (by rfl) rfl ?_ ?_
        · go_simp
          first|done|rfl|simp[Result.andThen]
        have HB6:=Aside0.mk (HB5.out.alloc HB5.out.size (.cells #[.int .i64 0,.int .i64 0,.int .i64 0,.int .i64 0] 70));refine hK.out _ _ (HCELL.out _ HB6.out) (fun hHeld=> ?_);clear hK K;refine norm_ (a' := ?_) ?_ ?_;rotate_left
        · show Act.put _ (some 11) _=_
          simp only[Act.put,List.setIfInBounds_toArray,List.set_cons_zero,List.set_cons_succ,i64_w,i32_w];rfl
        exact norm_ (by simp only[putAll,Act.put,List.setIfInBounds_toArray,List.set_cons_zero,List.set_cons_succ]) (hCont w5.heap.size _ ⟨⟨heap_alloc_new w5 _,HB5.out.size⟩,HB6.out⟩)
      · skip
        refine value_ (v:= .pointer (some ⟨w4.heap.size,0,none⟩)) (w1:=w4.alloc (.cells #[.int .i64 0,.int .i64 0,.int .i64 0,.int .i64 0] 70)) (by rfl) rfl ?_ ?_
        · go_simp
          first|done|rfl|simp[Result.andThen]
        have HB5:=Aside0.mk (HB4.out.alloc HB4.out.size (.cells #[.int .i64 0,.int .i64 0,.int .i64 0,.int .i64 0] 70));refine hK.out _ _ (HCELL.out _ HB5.out) (fun hHeld=> ?_);clear hK K;refine norm_ (a' := ?_) ?_ ?_;rotate_left
        · show Act.put _ (some 11) _=_
          simp only[Act.put,List.setIfInBounds_toArray,List.set_cons_zero,List.set_cons_succ,i64_w,i32_w];rfl
        refine one_ (i:=8) (N:=some 22) #[true,true,true,true,true,true,true,true,true,false,true,false] rfl rfl (one_of HT_.out (by kernel_rfl)) (by decide) (fun K hK=> ?_);refine goes_ Try.func64 (by kernel_rfl) rfl #[.int .i64 a1,.int .i64 z,.int .i64 a3_2] (by rfl) rfl rfl (by(try simp only[List.map_toArray,List.map_cons,List.map_nil]);first|done|rfl) ?_;refine(KA _).mono ?_;rintro e w6 ⟨rfl,hb6⟩;refine⟨_,rfl,?_⟩;have HNB:=Aside0.mk (blk_below (heap_alloc_new w4 (.cells #[.int .i64 0,.int .i64 0,.int .i64 0,.int .i64 0] 70)) hb6);have HB6:=Aside0.mk (HB5.out.trans (hb6.mono HB5.out.size));clear hb6;refine hK.out _ _ (HCELL.out _ HB6.out) (fun hHeld=> ?_);clear hK K;refine norm_ (a' := ?_) ?_ ?_;rotate_left
        · show Act.put _ (some 22) _=_
          simp only[Act.put,List.setIfInBounds_toArray,List.set_cons_zero,List.set_cons_succ,i64_w,i32_w];rfl
        refine pure_ (i:=9) (N:=some 23) (v:= ?_) (a' := ?_) #[true,true,true,true,true,true,true,true,true,true,true,false] rfl rfl (any_of HT_.out (by kernel_rfl)) (fun _ _ _ h=>h) (Or.inl ⟨by rfl,?_⟩) ?_ ?_;rotate_left
        · intro w'
          go_simp
          with_reducible rfl
        rotate_left
        · simp only[Act.put,List.setIfInBounds_toArray,List.set_cons_zero,List.set_cons_succ,i64_w,i32_w]
          rfl
        exact norm_ (by simp only[putAll,Act.put,List.setIfInBounds_toArray,List.set_cons_zero,List.set_cons_succ]) (hCont w4.heap.size _ ⟨⟨HNB.out,HB4.out.size⟩,HB6.out⟩)
    · skip
      refine value_ (v:= .pointer (some ⟨w3.heap.size,0,none⟩)) (w1:=w3.alloc (.cells #[.int .i64 0,.int .i64 0,.int .i64 0,.int .i64 0] 70)) (by rfl) rfl ?_ ?_
      · go_simp
        first|done|rfl|simp[Result.andThen]
      have HB4:=Aside0.mk (HBd.out.alloc HBd.out.size (.cells #[.int .i64 0,.int .i64 0,.int .i64 0,.int .i64 0] 70));refine hK.out _ _ (HCELL.out _ HB4.out) (fun hHeld=> ?_);clear hK K;refine norm_ (a' := ?_) ?_ ?_;rotate_left
      · show Act.put _ (some 11) _=_
        simp only[Act.put,List.setIfInBounds_toArray,List.set_cons_zero,List.set_cons_succ,i64_w,i32_w];rfl
      refine one_ (i:=5) (N:=some 19) #[true,true,true,true,true,true,true,true,false,false,true,false] rfl rfl (one_of HT_.out (by kernel_rfl)) (by decide) (fun K hK=> ?_);refine goes_ Try.func65 (by kernel_rfl) rfl #[.int .i64 a1] (by rfl) rfl rfl (by(try simp only[List.map_toArray,List.map_cons,List.map_nil]);first|done|rfl) ?_;refine(KZ _).mono ?_;rintro e w5 ⟨rfl,hd5⟩;refine⟨_,rfl,?_⟩;have HN5:=Aside0.mk (blk_below (heap_alloc_new w3 (.cells #[.int .i64 0,.int .i64 0,.int .i64 0,.int .i64 0] 70)) hd5.below);have HB5:=Aside0.mk (HB4.out.trans (hd5.below.mono HB4.out.size));clear hd5;refine hK.out _ _ (HCELL.out _ HB5.out) (fun hHeld=> ?_);clear hK K;refine norm_ (a' := ?_) ?_ ?_;rotate_left
      · show Act.put _ (some 19) _=_
        simp only[Act.put,List.setIfInBounds_toArray,List.set_cons_zero,List.set_cons_succ,i64_w,i32_w];rfl
      refine one_ (i:=8) (N:=some 22) #[true,true,true,true,true,true,true,true,true,false,true,false] rfl rfl (one_of HT_.out (by kernel_rfl)) (by decide) (fun K hK=> ?_);refine goes_ Try.func64 (by kernel_rfl) rfl #[.int .i64 a1,.int .i64 z,.int .i64 a3_2] (by rfl) rfl rfl (by(try simp only[List.map_toArray,List.map_cons,List.map_nil]);first|done|rfl) ?_;refine(KA _).mono ?_;rintro e w6 ⟨rfl,hb6⟩;refine⟨_,rfl,?_⟩;have HNB:=Aside0.mk (blk_below HN5.out hb6);have HB6:=Aside0.mk (HB5.out.trans (hb6.mono HB5.out.size));clear hb6;refine hK.out _ _ (HCELL.out _ HB6.out) (fun hHeld=> ?_);clear hK K;refine norm_ (a' := ?_) ?_ ?_;rotate_left
      · show Act.put _ (some 22) _=_
        simp only[Act.put,List.setIfInBounds_toArray,List.set_cons_zero,List.set_cons_succ,i64_w,i32_w];rfl
      refine pure_ (i:=9) (N:=some 23) (v:= ?_) (a' := ?_) #[true,true,true,true,true,true,true,true,true,true,true,false] rfl rfl (any_of HT_.out (by kernel_rfl)) (fun _ _ _ h=>h) (Or.inl ⟨by rfl,?_⟩) ?_ ?_;rotate_left
      · intro w'
        go_simp
        with_reducible rfl
      rotate_left
      · simp only[Act.put,List.setIfInBounds_toArray,List.set_cons_zero,List.set_cons_succ,i64_w,i32_w]
        rfl
      exact norm_ (by simp only[putAll,Act.put,List.setIfInBounds_toArray,List.set_cons_zero,List.set_cons_succ]) (hCont w3.heap.size _ ⟨⟨HNB.out,HBd.out.size⟩,HB6.out⟩)
  rintro B w5 ⟨⟨hB,hBs⟩,hb5⟩;have HB5:=Aside0.mk hb5;have HBs:=Aside0.mk hBs;have HBB:=Aside0.mk hB;have hHeld:=HCELL.out _ hb5;have b0:=(blk_cell hB 0).trans rfl;have b1_:=(blk_cell hB 1).trans rfl;have b2_:=(blk_cell hB 2).trans rfl;have b3:=(blk_cell hB 3).trans rfl;have g0:=blk_frozen hB 0;have g1:=blk_frozen hB 1;have g2:=blk_frozen hB 2;have g3:=blk_frozen hB 3;clear hb5 hBs hB;refine norm_ (a' := ?_) ?_ ?_;rotate_left
  · simp only[putAll,Act.put,List.setIfInBounds_toArray,List.set_cons_zero,List.set_cons_succ]
    rfl
  refine last_ (i:=11) (N:=none) #[true,true,true,true,true,true,true,true,true,true,true,true] rfl rfl (one_of HT_.out (by kernel_rfl)) (by decide) (fun K hK=> ?_);refine skip_ (w1:=(((w5.setCell ⟨B,0,none⟩ (.int .i64 a3_0)).setCell ⟨B,1,none⟩ (.int .i64 a4_0)).setCell ⟨B,2,none⟩ (.int .i64 a4_1)).setCell ⟨B,3,none⟩ (.int .i64 acc)) (by rfl) rfl ?_ ?_
  · go_simp
    first|done|rfl|simp[Result.andThen]
  refine hK.out _ _ ?_;clear hK K;refine done_ (done_of HT_.out (by kernel_rfl)) ?_;have HPB:=Aside0.mk (show((((w5.setCell ⟨B,0,none⟩ (.int .i64 a3_0)).setCell ⟨B,1,none⟩ (.int .i64 a4_0)).setCell ⟨B,2,none⟩ (.int .i64 a4_1)).setCell ⟨B,3,none⟩ (.int .i64 acc)).heap[B]? =some (.cells #[.int .i64 a3_0,.int .i64 a4_0,.int .i64 a4_1,.int .i64 acc] 70 (0,0)) from set4 HBB.out _ _ _ _);have HGE:Aside0 (w.heap.size≤B):=⟨by have h1:=HBs.out;have h2:=HS1.out;omega⟩
  have HGE1:Aside0 (w1.heap.size≤B):=⟨HBs.out⟩
  have HB6:=Aside0.mk (show Below w1.heap.size w1 ((((w5.setCell ⟨B,0,none⟩ (.int .i64 a3_0)).setCell ⟨B,1,none⟩ (.int .i64 a4_0)).setCell ⟨B,2,none⟩ (.int .i64 a4_1)).setCell ⟨B,3,none⟩ (.int .i64 acc)) from
    (((HB5.out.setCell (p:=⟨B,0,none⟩) HBs.out _).setCell (p:=⟨B,1,none⟩) HBs.out _).setCell (p:=⟨B,2,none⟩) HBs.out _).setCell (p:=⟨B,3,none⟩) HBs.out _)
  clear b0 b1_ b2_ b3 g0 g1 g2 g3 hHeld HBB HB5 HCELL KZ KA HBd HBs;generalize World.setCell _ _ _=w6 at HPB HB6 ⊢;clear w5;have HBW:=Aside0.mk (HB1.out.trans (HB6.out.mono HB1.out.size));have hk6:=blk_below HK0.out HB6.out;have k0:=(blk_cell hk6 0).trans rfl;have p0:=(blk_cell HPB.out 0).trans rfl;have p1:=(blk_cell HPB.out 1).trans rfl;have p2:=(blk_cell HPB.out 2).trans rfl;have p3:=(blk_cell HPB.out 3).trans rfl;clear hk6;by_cases h3:a0_0=3
  · have h31:(a0_0==3)=true:=by simpa using h3
    have hm:=HH.out;rw[if_pos h3] at hm;obtain⟨t,hm2,hr⟩:=Option.bind_eq_some_iff.1 hm;obtain rfl:=Option.some.inj hr;have KM:=leatref11_merge.calls k a1 P2_ (.slice A l2.length c) l2 a3_0 a4_0 a4_1 acc t w0 w6 (HB0.out.trans (HBW.out.mono HB0.out.size)) (Kd.R_below HR0.out HBW.out) hm2;clear h3 hm hm2 hr
    go_wp2_with (first
      | (go_at_call 66
         refine KM.mono ?_;clear KM;rintro e w7 ⟨v7,rfl,hR7,hb7,hk7⟩;have H7:=Aside0.mk (And.intro hR7 (And.intro hb7 hk7));clear hR7 hb7 hk7)
      |fail)
    go_ret;have hs:=HBW.out.size;exact⟨_,rfl,Kd.R_mono H7.out.1 (fun k hk=>hk.imp id (fun h=>Nat.le_trans hs h)),H7.out.2.1,⟨Nat.le_trans hs H7.out.2.2.1,fun k hk hn=>(H7.out.2.2.2 k (Nat.lt_of_lt_of_le hk hs) hn).trans (HBW.out.block k hk)⟩⟩
  · have h31 : (a0_0==3)=false:=by simpa using h3
    have hm:=HH.out;rw[if_neg h3] at hm;have HM:=Aside0.mk hm;clear h3 hm;go_wp2_with fail;have HL0:Aside0 (Lt38 w1 B ⟨a3_0,⟨a4_0,a4_1⟩,acc⟩ [] (.slice none 0 0) w6):=⟨⟨World.ownsRow_nil _ _ _ _,HPB.out,(by simp[Value.ownBlock]),HB6.out,HGE1.out⟩⟩
    have HKB:Aside0 (∀W,Below w1.heap.size w1 W→W.heap[w.heap.size+1+1]? =some (.cells #[.int .i64 a4_0,.int .i64 a4_1] 68 (0,0))):=⟨fun W hW=>blk_below HK2.out hW⟩
    clear k0 p0 p1 p2 p3 HPB;go_loopg [12,13] l2.length (fun kx s12 s13 wr=> ∃(kk i:Nat) (x:List S70) (m:Int),s13= .int .i64 (i:Int)∧l2.length-i≤kx∧i≤l2.length∧Aside0 (Lt38 w1 B ⟨a3_0,⟨a4_0,a4_1⟩,m⟩ x s12 wr)∧Aside0 (leatref11_Into.l0 kk a1 l2 x (i:Int) a4_0 a4_1 a3_0 a4_0 a4_1 m=some r))
    case atStart=>exact⟨k,0,[],acc,rfl,by omega,by omega,HL0,HM⟩
    case round =>
      clear HL0 HB6 HM HA HZ HH
      rename World=>wr
      obtain⟨kk,i,x,m,rfl,hkx,hi,HX,HF⟩:=hrel;have HBX:=Aside0.mk HX.out.bl;have HBR:=Aside0.mk (HB1.out.trans (HX.out.bl.mono HB1.out.size));obtain⟨Ax,cx,rfl⟩:=own_slice HX.out.row;have hf:=HF.out;cases kk with
      |zero=>exact absurd hf (by simp[leatref11_Into.l0])
      |succ kk=>
      simp only[leatref11_Into.l0] at hf;have q0:=(blk_cell HX.out.box 0).trans rfl;have q1:=(blk_cell HX.out.box 1).trans rfl;have q2:=(blk_cell HX.out.box 2).trans rfl;have q3:=(blk_cell HX.out.box 3).trans rfl;have hkb:=HKB.out wr HBX.out;have s0:=(blk_cell hkb 0).trans rfl;have s1:=(blk_cell hkb 1).trans rfl;by_cases hlt:(i:Int)<(l2.length:Int)
      · rw [if_pos hlt,if_pos (by omega)] at hf
        have hlz:=hlt;have hiz:(0:Int)≤(i:Int):=by omega
        have hil:i<l2.length:=by omega
        obtain⟨ad,rfl,x0,x1,x2,x3⟩:=at_T70 (HC.out wr HBR.out) (i:Int) hiz hlz;obtain⟨y,hy⟩: ∃y:S70,rd_T70 l2 (i:Int)=y:=⟨_,rfl⟩
        rw[hy] at x0 x1 x2 x3 hf;have hin:((i:Int)).toNat=i:=by omega
        rw[hin] at x0 x1 x2 x3;have hcap:=(Kd.R_reads' HR0.out).2.1;have hwi:wrap64 ((i:Int)+1)=((i+1:Nat):Int):=by have:=Kd.C_max (HC.out wr HBR.out);unfold wrap64;omega
        have HI1:=Aside0.mk (And.intro hkx (And.intro hi hil));have d0:wr.drew.cell? _=_:=x0;have d1:wr.drew.cell? _=_:=x1;have d2:wr.drew.cell? _=_:=x2;have e0:wr.drew.cell? _=_:=q0;have e1:wr.drew.cell? _=_:=q1;have e2:wr.drew.cell? _=_:=q2;have r0:wr.drew.cell? _=_:=s0;have r1:wr.drew.cell? _=_:=s1;clear hkx hi hil hy hin hlt hkb;by_cases hkey:y.f0=a3_0
        · rw [if_pos hkey] at hf
          have hk1:(y.f0==a3_0)=true:=by simpa using hkey
          by_cases hsp:(y.f1.f0==a4_0 && (y.f1.f1==a4_1))=true
          · rw[if_pos hsp] at hf
            have hs1:(y.f1.f0==a4_0 && (y.f1.f1==a4_1))=true:=hsp;obtain⟨mm,hmm,hf⟩:=Option.bind_eq_some_iff.1 hf;rw[hwi] at hf;have HF2:=Aside0.mk hf;have HXd:=Aside0.mk (HX.out.below (below_drew (Below.refl _ _)));have HXC:Aside0 (∀W,Below wr.drew.heap.size wr.drew W→W.cell? ⟨B,3,none⟩=some (.int .i64 m)∧W.cell? ⟨(ad.add (i*4)).block,(ad.add (i*4)).off+3,none⟩=some (.int .i64 y.f2)):=⟨fun W hW=>⟨(blk_cell (blk_below HXd.out.box hW) 3).trans rfl,pw_cell_below hW x3⟩⟩
            clear hsp hkey hf;go_wp2_with fail;go_region;go_wp2_with fail;refine start_ (n:=11) (S:=fun w'=>w'.cell? ⟨B,3,none⟩=some (.int .i64 m)∧w'.cell? ⟨(ad.add (i*4)).block,(ad.add (i*4)).off+3,none⟩=some (.int .i64 y.f2)) (ds:=[10]) #[false,false,false,false,false,false,false,false,false,false,false] (by kernel_rfl) rfl rfl (HXC.out _ (below_drew (Below.refl _ _))) (fun hHeld=> ?_);refine with_tabW Tin.tab9 Tin.bits9 (fun HT_ HW_=> ?_);have HBd:Aside0 (Below wr.drew.heap.size wr.drew wr.drew.drew):=⟨below_drew (Below.refl _ _)⟩
            generalize World.drew wr.drew=w3 at HBd hHeld ⊢;refine pure_ (i:=0) (N:=some 54) (v:= ?_) (a' := ?_) #[true,false,false,false,false,false,false,false,false,false,false] rfl rfl (any_of HT_.out (by kernel_rfl)) (fun _ _ _ h=>h) (Or.inl ⟨by rfl,?_⟩) ?_ ?_;rotate_left
            · intro w'
              go_simp
              with_reducible rfl
            rotate_left
            · simp only[Act.put,List.setIfInBounds_toArray,List.set_cons_zero,List.set_cons_succ,i64_w,i32_w]
              rfl
            refine pure_ (i:=1) (N:=some 55) (v:= ?_) (a' := ?_) #[true,true,false,false,false,false,false,false,false,false,false] rfl rfl (any_of HT_.out (by kernel_rfl)) (fun _ _ _ h=>h) (Or.inl ⟨by rfl,?_⟩) ?_ ?_;rotate_left
            · intro w'
              go_simp
              with_reducible rfl
            rotate_left
            · simp only[Act.put,List.setIfInBounds_toArray,List.set_cons_zero,List.set_cons_succ,i64_w,i32_w]
              rfl
            refine take_ (i:=2) (N:=some 56) (v:= ?_) (a' := ?_) #[true,true,true,false,false,false,false,false,false,false,false] rfl rfl (take_ofW HT_.out HW_.out (by kernel_rfl)) (fun _ _ _ h=>h) (Or.inl ⟨by rfl,?_⟩) hHeld ?_ ?_;rotate_left
            · rintro w' ⟨s0,s1⟩
              go_simp
              with_reducible rfl
            rotate_left
            · simp only[Act.put,List.setIfInBounds_toArray,List.set_cons_zero,List.set_cons_succ,i64_w,i32_w]
              rfl
            refine pure_ (i:=3) (N:=some 57) (v:= ?_) (a' := ?_) #[true,true,true,true,false,false,false,false,false,false,false] rfl rfl (any_of HT_.out (by kernel_rfl)) (fun _ _ _ h=>h) (Or.inl ⟨by rfl,?_⟩) ?_ ?_;rotate_left
            · intro w'
              go_simp
              with_reducible rfl
            rotate_left
            · simp only[Act.put,List.setIfInBounds_toArray,List.set_cons_zero,List.set_cons_succ,i64_w,i32_w]
              rfl
            refine pure_ (i:=4) (N:=some 58) (v:= ?_) (a' := ?_) #[true,true,true,true,true,false,false,false,false,false,false] rfl rfl (any_of HT_.out (by kernel_rfl)) (fun _ _ _ h=>h) (Or.inl ⟨by rfl,?_⟩) ?_ ?_;rotate_left
            · intro w'
              go_simp
              with_reducible rfl
            rotate_left
            · simp only[Act.put,List.setIfInBounds_toArray,List.set_cons_zero,List.set_cons_succ,i64_w,i32_w]
              rfl
            refine pure_ (i:=5) (N:=some 59) (v:= ?_) (a' := ?_) #[true,true,true,true,true,true,false,false,false,false,false] rfl rfl (any_of HT_.out (by kernel_rfl)) (fun _ _ _ h=>h) (Or.inl ⟨by rfl,?_⟩) ?_ ?_;rotate_left
            · intro w'
              go_simp
              with_reducible rfl
            rotate_left
            · simp only[Act.put,List.setIfInBounds_toArray,List.set_cons_zero,List.set_cons_succ,i64_w,i32_w]
              rfl
            refine pure_ (i:=6) (N:=some 60) (v:= ?_) (a' := ?_) #[true,true,true,true,true,true,true,false,false,false,false] rfl rfl (any_of HT_.out (by kernel_rfl)) (fun _ _ _ h=>h) (Or.inl ⟨by rfl,?_⟩) ?_ ?_;rotate_left
            · intro w'
              go_simp
              with_reducible rfl
            rotate_left
            · simp only[Act.put,List.setIfInBounds_toArray,List.set_cons_zero,List.set_cons_succ,i64_w,i32_w]
              rfl
            refine take_ (i:=7) (N:=some 61) (v:= ?_) (a' := ?_) #[true,true,true,true,true,true,true,true,false,false,false] rfl rfl (take_ofW HT_.out HW_.out (by kernel_rfl)) (fun _ _ _ h=>h) (Or.inl ⟨by rfl,?_⟩) hHeld ?_ ?_;rotate_left
            · rintro w' ⟨s0,s1⟩
              go_simp
              with_reducible rfl
            rotate_left
            · simp only[Act.put,List.setIfInBounds_toArray,List.set_cons_zero,List.set_cons_succ,i64_w,i32_w]
              rfl
            refine one_ (i:=8) (N:=some 62) #[true,true,true,true,true,true,true,true,true,false,false] rfl rfl (one_of HT_.out (by kernel_rfl)) (by decide) (fun K hK=> ?_);refine goes_ Try.func67 (by kernel_rfl) rfl #[.int .i64 a1,.int .i64 m,.int .i64 y.f2] (by rfl) rfl rfl (by(try simp only[List.map_toArray,List.map_cons,List.map_nil]);first|done|rfl) ?_;refine(leatref10_Merge.calls kk a1 m y.f2 mm w3 hmm).mono ?_;rintro e w4 ⟨rfl,hb4⟩;refine⟨_,rfl,?_⟩;have HB4:=Aside0.mk (HBd.out.trans (hb4.mono HBd.out.size));have HX4:=Aside0.mk (HXd.out.below HB4.out);have HX5:=Aside0.mk (HX4.out.set mm);clear hb4;have g3:=blk_frozen HX4.out.box 3;have g4:=(HXC.out _ HB4.out).1;refine hK.out _ _ (HXC.out _ HB4.out) (fun hHeld=> ?_);clear hK K;refine norm_ (a' := ?_) ?_ ?_;rotate_left
            · show Act.put _ (some 62) _=_
              simp only[Act.put,List.setIfInBounds_toArray,List.set_cons_zero,List.set_cons_succ,i64_w,i32_w];rfl
            refine pure_ (i:=9) (N:=some 63) (v:= ?_) (a' := ?_) #[true,true,true,true,true,true,true,true,true,true,false] rfl rfl (any_of HT_.out (by kernel_rfl)) (fun _ _ _ h=>h) (Or.inl ⟨by rfl,?_⟩) ?_ ?_;rotate_left
            · intro w'
              go_simp
              with_reducible rfl
            rotate_left
            · simp only[Act.put,List.setIfInBounds_toArray,List.set_cons_zero,List.set_cons_succ,i64_w,i32_w]
              rfl
            refine last_ (i:=10) (N:=none) #[true,true,true,true,true,true,true,true,true,true,true] rfl rfl (one_of HT_.out (by kernel_rfl)) (by decide) (fun K hK=> ?_);refine skip_ (w1:=w4.setCell ⟨B,3,none⟩ (.int .i64 mm)) (by rfl) rfl ?_ ?_
            · go_simp
              first|done|rfl|simp[Result.andThen]
            refine hK.out _ _ ?_;clear hK K;refine done_ (done_of HT_.out (by kernel_rfl)) ?_;clear hHeld;go_wp2_with fail
            try rw[hwi]
            go_roundg (l2.length- (i+1))
            case measure=>have:=HI1.out;omega
            case rel=>exact⟨kk,i+1,x,mm,rfl,Nat.le_refl _,HI1.out.2.2,HX5,HF2⟩
          · rw [if_neg hsp] at hf
            have hs1:(y.f1.f0==a4_0 && (y.f1.f1==a4_1))=false:=by simpa using hsp
            clear hsp hkey;by_cases hx:x.length<4398046511104
            · rw[if_pos hx,hwi] at hf
              have HF2:=Aside0.mk hf;obtain⟨v',w',hrun,hL⟩:=(HX.out.below (below_drew (Below.refl _ _))).app y hx 44;have HRUN:=Aside0.mk hrun;have HL2:=Aside0.mk hL;clear hf hrun hL hx;go_wp2_with fail;go_region
              go_wp2_with (first
                |(refine bappL_ (some 70) #[.slice Ax x.length cx,.slice (some ⟨wr.drew.heap.size,0,none⟩) 1 1] rfl rfl (by(try simp only[List.map_toArray,List.map_cons,List.map_nil]);first|done|rfl) rfl HRUN.out ?_)
                |fail)
              try rw[hwi]
              go_roundg (l2.length- (i+1))
              case measure=>have:=HI1.out;omega
              case rel=>exact⟨kk,i+1,x++[y],m,rfl,Nat.le_refl _,HI1.out.2.2,HL2,HF2⟩
            · rw[if_neg hx] at hf
              cases hf
        · rw [if_neg hkey] at hf
          have hk1:(y.f0==a3_0)=false:=by simpa using hkey
          clear hkey;by_cases hx:x.length<4398046511104
          · rw[if_pos hx,hwi] at hf
            have HF2:=Aside0.mk hf;obtain⟨v',w',hrun,hL⟩:=(HX.out.below (below_drew (Below.refl _ _))).app y hx 44;have HRUN:=Aside0.mk hrun;have HL2:=Aside0.mk hL;clear hf hrun hL hx;go_wp2_with fail;go_region
            go_wp2_with (first
              |(refine bappL_ (some 70) #[.slice Ax x.length cx,.slice (some ⟨wr.drew.heap.size,0,none⟩) 1 1] rfl rfl (by(try simp only[List.map_toArray,List.map_cons,List.map_nil]);first|done|rfl) rfl HRUN.out ?_)
              |fail)
            try rw[hwi]
            go_roundg (l2.length- (i+1))
            case measure=>have:=HI1.out;omega
            case rel=>exact⟨kk,i+1,x++[y],m,rfl,Nat.le_refl _,HI1.out.2.2,HL2,HF2⟩
          · rw[if_neg hx] at hf
            cases hf
      · rw [if_neg hlt] at hf
        have hlz:=hlt;have hzz: ¬((i:Int)<(l2.length:Int)):=hlt;by_cases hx:x.length<4398046511104
        · rw[if_pos hx] at hf
          obtain⟨t,hs,hr⟩:=Option.bind_eq_some_iff.1 hf;obtain rfl:=Option.some.inj hr;obtain⟨v',w',hrun,hL⟩:=HX.out.app ⟨a3_0,⟨a4_0,a4_1⟩,m⟩ hx 44;obtain⟨X,hX⟩: ∃X,x++[(⟨a3_0,⟨a4_0,a4_1⟩,m⟩:S70)]=X:=⟨_,rfl⟩
          rw[hX] at hs hL;obtain⟨Av,cv,rfl⟩:=own_slice hL.row;have HRUN:=Aside0.mk hrun;have HL2:=Aside0.mk hL;have hRf:=Kd.R_reads' (R_flat hL.row);have KS:=leatref11_Sort.calls kk Av cv X t w' hRf.2.2 hRf.2.1 hs;clear hX hf hx hs hr hrun hL hRf hkb hkx hi hlt
          go_wp2_with (first
            | (go_at_call 24
               refine KS.mono ?_;clear KS;rintro e w7 ⟨v7,rfl,hR7,hb7⟩;have H7:=Aside0.mk (And.intro hR7 hb7);clear hR7 hb7)
            |(refine bappL_ (some 74) #[.slice Ax x.length cx,.slice (some ⟨wr.heap.size,0,none⟩) 1 1] rfl rfl (by(try simp only[List.map_toArray,List.map_cons,List.map_nil]);first|done|rfl) rfl HRUN.out ?_)
            |fail)
          go_ret;have hbw:=HB1.out.trans (HL2.out.bl.mono HB1.out.size);have hs:=hbw.size;have hb7:=hbw.trans (H7.out.2.mono hs);exact⟨_,rfl,Kd.R_mono (Kd.R_lower (Kd.R_bound H7.out.1) (Nat.le_trans HB0.out.size hs)) (fun k hk=>Or.inr (Nat.le_trans hs hk.2.1)),HB0.out.trans (hb7.mono HB0.out.size),⟨hb7.size,fun k hk _=>hb7.block k hk⟩⟩
        · rw[if_neg hx] at hf
          cases hf
end Go.Proofs.Ytjegeghigfmkoaa.X
namespace Go.Proofs.Ytjegeghigfmkoaa.T
open Go.RowKit Go.Maps Go.Sort Go.Proofs Go.Proofs.Ytjegeghigfmkoaa Go.Proofs.Ytjegeghigfmkoaa.X Go.Proofs.YtjegeghigfmkoaaW.PrintWords Go.Proofs.YtjegeghigfmkoaaW.PrintLast Go.Proofs.YtjegeghigfmkoaaW.PrintMore
set_option linter.unusedVariables false
set_option linter.unusedSimpArgs false
set_option maxRecDepth 100000
variable {F:Nat→Prop} {N:Nat} {w w' :World} {q b1 b2:Nat} {tv:Value} {tm:List Int} {s:St}
structure Ro where
 kind:Int
 a:Int
 wk:Int
 ws:Int
 wl:Int
 mark:Int
 late:Int
 L:List S70
abbrev cellsO (v1 v5 vL:Value) (x2 x3 x4:Int) (o:Ro):Array Value:= #[.int .i64 o.kind,v1,.int .i64 x2,.int .i64 x3,.int .i64 x4,v5,.int .i64 o.a,.int .i64 o.wk,.int .i64 o.ws,.int .i64 o.wl,vL,.int .i64 o.mark,.int .i64 o.late]
structure IsO (w0:World) (G:Nat→Prop) (w:World) (g:Nat) (o:Ro) (v1 v5 vL:Value) (x2 x3 x4:Int):Prop where
 at_:w.heap[g]? =some (.cells (cellsO v1 v5 vL x2 x3 x4 o) 46 (0,0))
 row:Kd.R k70 70 w w0.heap.size (fun k=>G k∧k≠g) vL o.L
 bl:Below w0.heap.size w0 w
 gG:G g
 gb:w0.heap.size≤g
 bound: ∀k,G k→w0.heap.size≤k∧k<w.heap.size
theorem IsO.fr {w0:World} {G M:Nat→Prop} {g:Nat} {o:Ro} {v1 v5 vL:Value} {x2 x3 x4:Int} (h:IsO w0 G w g o v1 v5 vL x2 x3 x4) (hf:Fr M w w') (hM: ∀k,M k→ ¬G k∧w0.heap.size≤k):IsO w0 G w' g o v1 v5 vL x2 x3 x4:=
 ⟨(hf.block g (h.bound g h.gG).2 (fun m=>(hM g m).1 h.gG)).trans h.at_,Kd.R_step h.row (fun k hk hlt=>hf.block k hlt (fun m=>(hM k m).1 hk.1)),⟨hf.os.trans h.bl.os,hf.tape.trans h.bl.tape,hf.output.trans h.bl.output,Nat.le_trans h.bl.size hf.size,fun k hk=>(hf.block k (Nat.lt_of_lt_of_le hk h.bl.size) (fun m=>by have:=(hM k m).2;omega)).trans (h.bl.block k hk)⟩,h.gG,h.gb,fun k hk=>⟨(h.bound k hk).1,Nat.lt_of_lt_of_le (h.bound k hk).2 hf.size⟩⟩
theorem IsO.below {w0:World} {G:Nat→Prop} {g:Nat} {o:Ro} {v1 v5 vL:Value} {x2 x3 x4:Int} (h:IsO w0 G w g o v1 v5 vL x2 x3 x4) (hb:Below w.heap.size w w'):IsO w0 G w' g o v1 v5 vL x2 x3 x4:=h.fr (M:=fun _=>False) (Fr.of_below hb) (fun _ m=>m.elim)
set_option maxHeartbeats 4000000 in
theorem RefNew_calls (w0 w:World) (hb:Below w0.heap.size w0 w) (kind x2 x3 x4 a wk ws wl:Int) (v1 v5:Value) (h1:v1.oneCell'=true) (h5:v5.oneCell'=true):
  Calls Try.prog 12 #[.agg #[.int .i64 kind,v1,.int .i64 x2,.int .i64 x3,.int .i64 x4,v5,.int .i64 a,.int .i64 wk,.int .i64 ws,.int .i64 wl]] w fun e w'=> ∃g,e= .returned (.pointer (some ⟨g,0,none⟩))∧IsO w0 (fun k=>w.heap.size≤k∧k<w'.heap.size) w' g ⟨kind,a,wk,ws,wl, -9223372036854775808,0,[]⟩ v1 v5 (.slice none 0 0) x2 x3 x4∧Below w.heap.size w w' :=by
 have HB:=Aside0.mk hb;clear hb;go_enter Try.func12,Try.ntmps12;go_wp2;go_ret;obtain⟨w1,hw1⟩: ∃W,w.alloc (.cells #[.int .i64 kind,v1,.int .i64 x2,.int .i64 x3,.int .i64 x4,v5,.int .i64 a,.int .i64 wk,.int .i64 ws,.int .i64 wl] 36)=W:=⟨_,rfl⟩
 rw[hw1];have s1:w1.heap.size=w.heap.size+1:=by rw[←hw1];simp
 have hb1:Below w.heap.size w w1:=by rw[←hw1];exact(Below.refl _ w).alloc (Nat.le_refl _) _
 have hn:=heap_alloc_new w1 (.cells (cellsO v1 v5 (.slice none 0 0) x2 x3 x4 ⟨kind,a,wk,ws,wl, -9223372036854775808,0,[]⟩) 46);rw[s1] at hn;have hb2:Below w.heap.size w (w1.alloc (.cells (cellsO v1 v5 (.slice none 0 0) x2 x3 x4 ⟨kind,a,wk,ws,wl, -9223372036854775808,0,[]⟩) 46)):=hb1.alloc hb1.size _;have s2:=HB.out.size;exact⟨_,rfl,⟨hn,Kd.R_nil _ _ _ _ _,HB.out.trans (hb2.mono s2),⟨by omega,lt_of_block hn⟩,by omega,fun k hk=>⟨by omega,hk.2⟩⟩,hb2⟩
theorem into_in {w0:World} {G:Nat→Prop} {g:Nat} {o:Ro} {v1 v5 vL:Value} {x2 x3 x4:Int} (h:IsO w0 G w g o v1 v5 vL x2 x3 x4) (kind size slide:Int) (r:S39) (sp:S68) {L:List S70} (k:Nat) (hk:leatref11_Into.f k kind size slide o.a o.L r.f0 r.f1 r.f2 sp.f0 sp.f1=some L):
  Calls Try.prog 38 #[aggW kind size slide,.int .i64 o.a,vL,aggR r,aggSp sp] w fun e w'=> ∃v',e= .returned v'∧Kd.R k70 70 w' w0.heap.size (fun k=>(G k∧k≠g)∨w.heap.size≤k) v' L∧Fr (fun k=>G k∧k≠g) w w' :=by
 refine(leatref11_Into.calls k kind size slide o.a (fun k=>G k∧k≠g) vL o.L r.f0 r.f1 r.f2 sp.f0 sp.f1 L w0 w h.bl h.row hk).mono ?_;rintro e w' ⟨v,rfl,h1,h2,h3⟩;exact⟨v,rfl,h1,⟨h2.os.trans h.bl.os.symm,h2.tape.trans h.bl.tape.symm,h2.output.trans h.bl.output.symm,h3.1,h3.2⟩⟩
theorem IsO.stored {w0:World} {G:Nat→Prop} {g:Nat} {o:Ro} {v1 v5 vL v' :Value} {x2 x3 x4:Int} (h:IsO w0 G w g o v1 v5 vL x2 x3 x4) {w2:World} {L:List S70} (hf:Fr (fun k=>G k∧k≠g) w w2) (hR:Kd.R k70 70 w2 w0.heap.size (fun k=>(G k∧k≠g)∨w.heap.size≤k) v' L):
  IsO w0 (Fx G w (w2.setCell ⟨g,10,none⟩ v')) (w2.setCell ⟨g,10,none⟩ v') g {o with L:=L} v1 v5 v' x2 x3 x4∧Fr G w (w2.setCell ⟨g,10,none⟩ v'):=by
 have hgl:=(h.bound g h.gG).2;have s2:=hf.size;have hq:w2.heap[g]? =some (.cells (cellsO v1 v5 vL x2 x3 x4 o) 46 (0,0)):=(hf.block g hgl (fun m=>m.2 rfl)).trans h.at_;have hsz:(w2.setCell ⟨g,10,none⟩ v').heap.size=w2.heap.size:=by simp[World.setCell]
 have fr:Fr G w (w2.setCell ⟨g,10,none⟩ v'):=(hf.mono (fun k _ hk=>hk.1)).setCell (p:=⟨g,10,none⟩) h.gG v';have hbw:Below w0.heap.size w0 (w2.setCell ⟨g,10,none⟩ v'):=⟨fr.os.trans h.bl.os,fr.tape.trans h.bl.tape,fr.output.trans h.bl.output,Nat.le_trans h.bl.size fr.size,fun k hk=>(fr.block k (Nat.lt_of_lt_of_le hk h.bl.size) (fun m=>by have:=(h.bound k m).1;omega)).trans (h.bl.block k hk)⟩
 refine⟨⟨blk_set hq 10 v',?_,hbw,Or.inl h.gG,h.gb,fun k hk=> ?_⟩,fr⟩
 ·refine Kd.R_mono (Kd.R_bound (Kd.R_far (p:=⟨g,10,none⟩) hR (fun k hk e=> ?_) v')) (fun k hk=> ?_)
  ·rcases hk with hk|hk
   ·exact hk.2 e
   ·have e:k=g:=e;omega
  ·have hlt:k<(w2.setCell ⟨g,10,none⟩ v').heap.size:=hk.2.2.1;rcases hk.1 with h1|h1
   ·exact⟨Or.inl h1.1,h1.2⟩
   ·exact⟨Or.inr ⟨h1,hlt⟩,by omega⟩
 ·rcases hk with hk|hk
  ·exact⟨(h.bound k hk).1,by have:=(h.bound k hk).2;omega⟩
  ·exact⟨by have:=h.bl.size;omega,hk.2⟩
theorem rec_end {w0 w3 w4:World} {G:Nat→Prop} {g:Nat} {o:Ro} {v1 v5 vL v' :Value} {x2 x3 x4:Int} {L:List S70} (h:IsO w0 G w g o v1 v5 vL x2 x3 x4) (hb:Below w.heap.size w w3) (h3:IsO w0 G w3 g o v1 v5 vL x2 x3 x4) (hf:Fr (fun k=>G k∧k≠g) w3 w4) (hR:Kd.R k70 70 w4 w0.heap.size (fun k=>(G k∧k≠g)∨w3.heap.size≤k) v' L):
  IsO w0 (Fx G w (w4.setCell ⟨g,10,none⟩ v')) (w4.setCell ⟨g,10,none⟩ v') g {o with L:=L} v1 v5 v' x2 x3 x4∧Fr G w (w4.setCell ⟨g,10,none⟩ v'):=by
 obtain⟨h1,h2⟩:=h3.stored hf hR;have s1:=hb.size;refine⟨⟨h1.at_,Kd.R_mono h1.row (fun k hk=>⟨?_,hk.2⟩),h1.bl,Or.inl h.gG,h.gb,fun k hk=> ?_⟩,((Fr.refl G w).below hb).trans h2⟩
 ·rcases hk.1 with h|h
  ·exact Or.inl h
  ·exact Or.inr ⟨by omega,h.2⟩
 ·rcases hk with hk|hk
  ·exact h1.bound k (Or.inl hk)
  ·exact⟨by have:=h.bl.size;omega,hk.2⟩
def Trc.T11:Bool×List (List Nat×List Nat):=(true,[([],[]),([],[]),([],[]),([2],[2]),([3],[3]),([4],[4]),([5],[5]),([],[]),([7],[7]),([8],[8]),([9],[9]),([],[]),([],[]),([1,6,10,11,12,12],[1,6,10,11,12]),([0,0,1,2,3,4,5,6,7,8,9,10,11,12,13],[0]),([14,0,1,2,3,4,5,6,7,8,9,10,11,12,13],[14]),([15,13,13,0,1,2,3,4,5,6,7,8,9,10,11,12,13],[13,15])])
def Trc.B11:List Nat:=[0,0,0,4,12,28,60,0,128,384,896,0,0,8190,16383,32767,65535]
theorem Trc.tab11:rtab .any (opsOf Try.f16 11)=Trc.T11:=by kernel_rfl
theorem Trc.bits11:waitsOk Trc.T11.2 Trc.B11=true:=by kernel_rfl
set_option maxHeartbeats 4000000 in
theorem RecordR_calls {w0:World} {G:Nat→Prop} {g:Nat} {o:Ro} {v1 v5 vL:Value} {x2 x3 x4:Int} (h:IsO w0 G w g o v1 v5 vL x2 x3 x4) (h6:o.kind=6) (r:S39) {L:List S70} (k:Nat) (hk:leatref11_Into.f k 0 0 0 o.a o.L r.f0 r.f1 r.f2 (-9223372036854775808) 2199023255553=some L):
  Calls Try.prog 16 #[.pointer (some ⟨g,0,none⟩),aggR r] w fun e w'=>(∃v,e= .returned v)∧ ∃vL',IsO w0 (Fx G w w') w' g {o with L:=L} v1 v5 vL' x2 x3 x4∧Fr G w w' :=by
 have HB1:=Aside0.mk ((Below.refl w.heap.size w).alloc (Nat.le_refl _) (.cells #[.int .i64 r.f0,.int .i64 r.f1,.int .i64 r.f2] 39));have HR1:=Aside0.mk (heap_alloc_new w (.cells #[.int .i64 r.f0,.int .i64 r.f1,.int .i64 r.f2] 39));have HO:=Aside0.mk h;have H1:=Aside0.mk (h.below HB1.out);have HK:=Aside0.mk hk;have c0:(w.alloc (.cells #[.int .i64 r.f0,.int .i64 r.f1,.int .i64 r.f2] 39)).cell? ⟨g,0,none⟩=some (.int .i64 6):=(blk_cell H1.out.at_ 0).trans (by rw[←h6];rfl);clear h hk h6;go_enter Try.func16,Try.ntmps16;go_wp2_with fail;generalize (w.alloc (.cells #[.int .i64 r.f0,.int .i64 r.f1,.int .i64 r.f2] 39))=w1 at HB1 HR1 H1 c0 ⊢;refine start_ (n:=17) (S:=fun w'=>w'.cell? ⟨g,6,none⟩=some (.int .i64 o.a)∧w'.cell? ⟨g,10,none⟩=some vL∧w'.cell? ⟨w.heap.size,0,none⟩=some (.int .i64 r.f0)∧w'.cell? ⟨w.heap.size,1,none⟩=some (.int .i64 r.f1)∧w'.cell? ⟨w.heap.size,2,none⟩=some (.int .i64 r.f2)) (ds:=[16]) #[false,false,false,false,false,false,false,false,false,false,false,false,false,false,false,false,false] (by kernel_rfl) rfl rfl ⟨(blk_cell (blk_drew H1.out.at_) 6).trans rfl,(blk_cell (blk_drew H1.out.at_) 10).trans rfl,(blk_cell (blk_drew HR1.out) 0).trans rfl,(blk_cell (blk_drew HR1.out) 1).trans rfl,(blk_cell (blk_drew HR1.out) 2).trans rfl⟩ (fun hHeld=> ?_);refine with_tabW Trc.tab11 Trc.bits11 (fun HT_ HW_=> ?_);have HB2:=Aside0.mk (below_drew HB1.out);have HR2:=Aside0.mk (blk_drew HR1.out);have H2:=Aside0.mk (H1.out.below (below_drew (Below.refl _ _)));clear c0 HB1 HR1 H1;generalize World.drew w1=w2 at HB2 HR2 H2 hHeld ⊢;clear w1;refine pure_ (i:=0) (N:=some 57) (v:= ?_) (a' := ?_) #[true,false,false,false,false,false,false,false,false,false,false,false,false,false,false,false,false] rfl rfl (any_of HT_.out (by kernel_rfl)) (fun _ _ _ h=>h) (Or.inl ⟨by rfl,?_⟩) ?_ ?_;rotate_left
 ·intro w';go_simp
  with_reducible rfl
 rotate_left
 ·simp only[Act.put,List.setIfInBounds_toArray,List.set_cons_zero,List.set_cons_succ,i64_w,i32_w];rfl
 refine pure_ (i:=1) (N:=some 58) (v:= ?_) (a' := ?_) #[true,true,false,false,false,false,false,false,false,false,false,false,false,false,false,false,false] rfl rfl (any_of HT_.out (by kernel_rfl)) (fun _ _ _ h=>h) (Or.inl ⟨by rfl,?_⟩) ?_ ?_;rotate_left
 ·intro w';go_simp
  with_reducible rfl
 rotate_left
 ·simp only[Act.put,List.setIfInBounds_toArray,List.set_cons_zero,List.set_cons_succ,i64_w,i32_w];rfl
 refine pure_ (i:=2) (N:=some 59) (v:= ?_) (a' := ?_) #[true,true,true,false,false,false,false,false,false,false,false,false,false,false,false,false,false] rfl rfl (any_of HT_.out (by kernel_rfl)) (fun _ _ _ h=>h) (Or.inl ⟨by rfl,?_⟩) ?_ ?_;rotate_left
 ·intro w';go_simp
  with_reducible rfl
 rotate_left
 ·simp only[Act.put,List.setIfInBounds_toArray,List.set_cons_zero,List.set_cons_succ,i64_w,i32_w];rfl
 refine pure_ (i:=3) (N:=some 60) (v:= ?_) (a' := ?_) #[true,true,true,true,false,false,false,false,false,false,false,false,false,false,false,false,false] rfl rfl (any_of HT_.out (by kernel_rfl)) (fun _ _ _ h=>h) (Or.inl ⟨by rfl,?_⟩) ?_ ?_;rotate_left
 ·intro w';go_simp
  with_reducible rfl
 rotate_left
 ·simp only[Act.put,List.setIfInBounds_toArray,List.set_cons_zero,List.set_cons_succ,i64_w,i32_w];rfl
 refine pure_ (i:=4) (N:=some 61) (v:= ?_) (a' := ?_) #[true,true,true,true,true,false,false,false,false,false,false,false,false,false,false,false,false] rfl rfl (any_of HT_.out (by kernel_rfl)) (fun _ _ _ h=>h) (Or.inl ⟨by rfl,?_⟩) ?_ ?_;rotate_left
 ·intro w';go_simp
  with_reducible rfl
 rotate_left
 ·simp only[Act.put,List.setIfInBounds_toArray,List.set_cons_zero,List.set_cons_succ,i64_w,i32_w];rfl
 refine pure_ (i:=5) (N:=some 62) (v:= ?_) (a' := ?_) #[true,true,true,true,true,true,false,false,false,false,false,false,false,false,false,false,false] rfl rfl (any_of HT_.out (by kernel_rfl)) (fun _ _ _ h=>h) (Or.inl ⟨by rfl,?_⟩) ?_ ?_;rotate_left
 ·intro w';go_simp
  with_reducible rfl
 rotate_left
 ·simp only[Act.put,List.setIfInBounds_toArray,List.set_cons_zero,List.set_cons_succ,i64_w,i32_w];rfl
 refine take_ (i:=6) (N:=some 63) (v:= ?_) (a' := ?_) #[true,true,true,true,true,true,true,false,false,false,false,false,false,false,false,false,false] rfl rfl (take_ofW HT_.out HW_.out (by kernel_rfl)) (fun _ _ _ h=>h) (Or.inl ⟨by rfl,?_⟩) hHeld ?_ ?_;rotate_left
 ·rintro w' ⟨s0,s1,s2,s3,s4⟩;go_simp
  with_reducible rfl
 rotate_left
 ·simp only[Act.put,List.setIfInBounds_toArray,List.set_cons_zero,List.set_cons_succ,i64_w,i32_w];rfl
 refine pure_ (i:=7) (N:=some 64) (v:= ?_) (a' := ?_) #[true,true,true,true,true,true,true,true,false,false,false,false,false,false,false,false,false] rfl rfl (any_of HT_.out (by kernel_rfl)) (fun _ _ _ h=>h) (Or.inl ⟨by rfl,?_⟩) ?_ ?_;rotate_left
 ·intro w';go_simp
  with_reducible rfl
 rotate_left
 ·simp only[Act.put,List.setIfInBounds_toArray,List.set_cons_zero,List.set_cons_succ,i64_w,i32_w];rfl
 refine pure_ (i:=8) (N:=some 65) (v:= ?_) (a' := ?_) #[true,true,true,true,true,true,true,true,true,false,false,false,false,false,false,false,false] rfl rfl (any_of HT_.out (by kernel_rfl)) (fun _ _ _ h=>h) (Or.inl ⟨by rfl,?_⟩) ?_ ?_;rotate_left
 ·intro w';go_simp
  with_reducible rfl
 rotate_left
 ·simp only[Act.put,List.setIfInBounds_toArray,List.set_cons_zero,List.set_cons_succ,i64_w,i32_w];rfl
 refine pure_ (i:=9) (N:=some 66) (v:= ?_) (a' := ?_) #[true,true,true,true,true,true,true,true,true,true,false,false,false,false,false,false,false] rfl rfl (any_of HT_.out (by kernel_rfl)) (fun _ _ _ h=>h) (Or.inl ⟨by rfl,?_⟩) ?_ ?_;rotate_left
 ·intro w';go_simp
  with_reducible rfl
 rotate_left
 ·simp only[Act.put,List.setIfInBounds_toArray,List.set_cons_zero,List.set_cons_succ,i64_w,i32_w];rfl
 refine take_ (i:=10) (N:=some 67) (v:= ?_) (a' := ?_) #[true,true,true,true,true,true,true,true,true,true,true,false,false,false,false,false,false] rfl rfl (take_ofW HT_.out HW_.out (by kernel_rfl)) (fun _ _ _ h=>h) (Or.inl ⟨by rfl,?_⟩) hHeld ?_ ?_;rotate_left
 ·rintro w' ⟨s0,s1,s2,s3,s4⟩;go_simp
  with_reducible rfl
 rotate_left
 ·simp only[Act.put,List.setIfInBounds_toArray,List.set_cons_zero,List.set_cons_succ,i64_w,i32_w];rfl
 refine take_ (i:=11) (N:=some 68) (v:= ?_) (a' := ?_) #[true,true,true,true,true,true,true,true,true,true,true,true,false,false,false,false,false] rfl rfl (take_ofW HT_.out HW_.out (by kernel_rfl)) (fun _ _ _ h=>h) (Or.inl ⟨by rfl,?_⟩) hHeld ?_ ?_;rotate_left
 ·rintro w' ⟨s0,s1,s2,s3,s4⟩;go_simp
  with_reducible rfl
 rotate_left
 ·simp only[Act.put,List.setIfInBounds_toArray,List.set_cons_zero,List.set_cons_succ,i64_w,i32_w];rfl
 refine one_ (i:=12) (N:=some 69) #[true,true,true,true,true,true,true,true,true,true,true,true,true,false,false,false,false] rfl rfl (one_of HT_.out (by kernel_rfl)) (by decide) (fun K hK=> ?_);refine goes_ Try.func39 (by kernel_rfl) rfl #[] (by rfl) rfl rfl (by(try simp only[List.map_toArray,List.map_cons,List.map_nil]);first|done|rfl) ?_;refine(leatref11_Whole.calls (-9223372036854775808) 2199023255553 w2 rfl).mono ?_;rintro e w3 ⟨rfl,hb3⟩;refine⟨_,rfl,?_⟩;have HB3:=Aside0.mk (HB2.out.trans (hb3.mono HB2.out.size));have HR3:=Aside0.mk (blk_below HR2.out hb3);have H3:=Aside0.mk (H2.out.below hb3);clear HB2 HR2 H2 hb3;refine hK.out _ _ ⟨(blk_cell H3.out.at_ 6).trans rfl,(blk_cell H3.out.at_ 10).trans rfl,(blk_cell HR3.out 0).trans rfl,(blk_cell HR3.out 1).trans rfl,(blk_cell HR3.out 2).trans rfl⟩ (fun hHeld=> ?_);clear hK K;refine norm_ (a' := ?_) ?_ ?_;rotate_left
 ·show Act.put _ (some 69) _=_;simp only[Act.put,List.setIfInBounds_toArray,List.set_cons_zero,List.set_cons_succ,i64_w,i32_w];rfl
 refine one_ (i:=13) (N:=some 70) #[true,true,true,true,true,true,true,true,true,true,true,true,true,true,false,false,false] rfl rfl (one_of HT_.out (by kernel_rfl)) (by decide) (fun K hK=> ?_);refine goes_ Try.func38 (by kernel_rfl) rfl #[aggW 0 0 0,.int .i64 o.a,vL,aggR r,aggSp ⟨-9223372036854775808,2199023255553⟩] (by rfl) rfl rfl (by(try simp only[List.map_toArray,List.map_cons,List.map_nil]);first|done|rfl) ?_;refine(into_in H3.out 0 0 0 r ⟨-9223372036854775808,2199023255553⟩ k HK.out).mono ?_;rintro e w4 ⟨v4,rfl,hR4,hf4⟩;refine⟨_,rfl,?_⟩;obtain⟨A4,c4,rfl⟩:=Kd.R_slice hR4;have HR4:=Aside0.mk hR4;have HF4:=Aside0.mk hf4;have hq4:=(hf4.block g (H3.out.bound g H3.out.gG).2 (fun m=>m.2 rfl)).trans H3.out.at_;have hr4:=(hf4.block w.heap.size (lt_of_block HR3.out) (fun m=>by have:=(HO.out.bound _ m.1).2;omega)).trans HR3.out;have f10:=blk_frozen hq4 10;have k10:=(blk_cell hq4 10).trans rfl;refine hK.out _ _ ⟨(blk_cell hq4 6).trans rfl,k10,(blk_cell hr4 0).trans rfl,(blk_cell hr4 1).trans rfl,(blk_cell hr4 2).trans rfl⟩ (fun hHeld=> ?_);clear hK K;refine norm_ (a' := ?_) ?_ ?_;rotate_left
 ·show Act.put _ (some 70) _=_;simp only[Act.put,List.setIfInBounds_toArray,List.set_cons_zero,List.set_cons_succ,i64_w,i32_w];rfl
 refine pure_ (i:=14) (N:=some 71) (v:= ?_) (a' := ?_) #[true,true,true,true,true,true,true,true,true,true,true,true,true,true,true,false,false] rfl rfl (any_of HT_.out (by kernel_rfl)) (fun _ _ _ h=>h) (Or.inl ⟨by rfl,?_⟩) ?_ ?_;rotate_left
 ·intro w';go_simp
  with_reducible rfl
 rotate_left
 ·simp only[Act.put,List.setIfInBounds_toArray,List.set_cons_zero,List.set_cons_succ,i64_w,i32_w];rfl
 refine pure_ (i:=15) (N:=some 72) (v:= ?_) (a' := ?_) #[true,true,true,true,true,true,true,true,true,true,true,true,true,true,true,true,false] rfl rfl (any_of HT_.out (by kernel_rfl)) (fun _ _ _ h=>h) (Or.inl ⟨by rfl,?_⟩) ?_ ?_;rotate_left
 ·intro w';go_simp
  with_reducible rfl
 rotate_left
 ·simp only[Act.put,List.setIfInBounds_toArray,List.set_cons_zero,List.set_cons_succ,i64_w,i32_w];rfl
 refine last_ (i:=16) (N:=none) #[true,true,true,true,true,true,true,true,true,true,true,true,true,true,true,true,true] rfl rfl (one_of HT_.out (by kernel_rfl)) (by decide) (fun K hK=> ?_);refine skip_ (w1:=w4.setCell ⟨g,10,none⟩ (.slice A4 L.length c4)) (by rfl) rfl ?_ ?_
 ·go_simp
  first|done|rfl|simp[Result.andThen]
 refine hK.out _ _ ?_;clear hK K;refine done_ (done_of HT_.out (by kernel_rfl)) ?_;have HE:=Aside0.mk (rec_end HO.out HB3.out H3.out HF4.out HR4.out);clear hR4 hf4 hq4 hr4 f10 k10 hHeld;go_wp2;go_ret;exact⟨⟨_,rfl⟩,_,HE.out⟩
end Go.Proofs.Ytjegeghigfmkoaa.T
namespace Go.Proofs.Ytjegeghigfmkoaa.T
open Go.RowKit Go.Maps Go.Sort Go.Proofs Go.Proofs.Ytjegeghigfmkoaa Go.Proofs.Ytjegeghigfmkoaa.X Go.Proofs.YtjegeghigfmkoaaW.PrintWords Go.Proofs.YtjegeghigfmkoaaW.PrintLast Go.Proofs.YtjegeghigfmkoaaW.PrintMore
set_option linter.unusedVariables false
set_option linter.unusedSimpArgs false
set_option maxRecDepth 100000
variable {F:Nat→Prop} {N:Nat} {w w' :World} {q b1 b2:Nat} {tv:Value} {tm:List Int} {s:St}
structure Lw (w0:World) (G:Nat→Prop) (w w2:World) (g:Nat) (o:Ro) (v1 v5:Value) (x2 x3 x4:Int) (r:S39) (A:Option Addr) (sp:List S68) (Lf:Nat→List S70) (i:Nat) (wr:World) (G1:Nat→Prop) (vL:Value):Prop where
 is:IsO w0 G1 wr g {o with L:=Lf i} v1 v5 vL x2 x3 x4
 fr:Fr G w2 wr
 old: ∀k,G1 k→G k∨w2.heap.size≤k
 hR:wr.heap[w.heap.size]? =some (.cells #[.int .i64 r.f0,.int .i64 r.f1,.int .i64 r.f2] 39 (0,0))
 row:Kd.F k68 wr (fun k=>w.heap.size<k∧k<w2.heap.size) A sp.length sp
theorem Lw.next {w0:World} {G G1:Nat→Prop} {w2 wr w3 w4:World} {g:Nat} {o:Ro} {v1 v5 vL v' :Value} {x2 x3 x4:Int} {r:S39} {A:Option Addr} {sp:List S68} {Lf:Nat→List S70} {i:Nat} (h:Lw w0 G w w2 g o v1 v5 x2 x3 x4 r A sp Lf i wr G1 vL) (hG: ∀k,G k→k<w.heap.size) (hw2:w.heap.size<w2.heap.size)
  (hb:Below wr.heap.size wr w3) (hf:Fr (fun k=>G1 k∧k≠g) w3 w4) (hR:Kd.R k70 70 w4 w0.heap.size (fun k=>(G1 k∧k≠g)∨w3.heap.size≤k) v' (Lf (i+1))):
  Lw w0 G w w2 g o v1 v5 x2 x3 x4 r A sp Lf (i+1) (w4.setCell ⟨g,10,none⟩ v') (Fx G1 wr (w4.setCell ⟨g,10,none⟩ v')) v' :=by
 obtain⟨h1,h2⟩:=rec_end h.is hb (h.is.below hb) hf hR;have s1:=h.fr.size;have hrl:=lt_of_block h.hR
 have nG1: ∀k,k<w2.heap.size→w.heap.size≤k→ ¬G1 k:=fun k hk hk2 hg=>by
  rcases h.old k hg with h|h
  ·have:=hG k h;omega
  ·omega
 refine⟨h1,h.fr.mix h.old h2 (Fr.refl (fun _=>False) _) (fun _ h=>h.elim),fun k hk=> ?_,(h2.block _ hrl (nG1 _ hw2 (Nat.le_refl _))).trans h.hR,Kd.F_step h.row (fun k hk hlt=>h2.block k hlt (nG1 k hk.2 (Nat.le_of_lt hk.1)))⟩;rcases hk with hk|hk
 ·exact h.old k hk
 ·exact Or.inr (by omega)
def Trw.T14:Bool×List (List Nat×List Nat):=(true,[([],[]),([0],[0]),([1],[1]),([2],[2]),([3],[3]),([],[]),([5],[5]),([4,6],[4,6]),([7,7,0,1,2,3,4,5,6,7],[7])])
def Trw.B14:List Nat:=[0,1,3,7,15,0,32,127,255]
theorem Trw.tab14:rtab .any (opsOf Try.f16 14)=Trw.T14:=by kernel_rfl
theorem Trw.bits14:waitsOk Trw.T14.2 Trw.B14=true:=by kernel_rfl
def Trw.T20:Bool×List (List Nat×List Nat):=(true,[([],[]),([],[]),([1],[1]),([2],[2]),([3],[3]),([4],[4]),([],[]),([6],[6]),([7],[7]),([8],[8]),([9],[9]),([],[]),([11],[11]),([12],[12]),([13],[13]),([],[]),([],[]),([],[]),([16,17],[16,17]),([18],[18]),([5,10,14,15,19],[5,10,14,15,19]),([0,0,1,2,3,4,5,6,7,8,9,10,11,12,13,14,15,16,17,18,19,20],[0]),([21,0,1,2,3,4,5,6,7,8,9,10,11,12,13,14,15,16,17,18,19,20],[21]),([22,20,20,0,1,2,3,4,5,6,7,8,9,10,11,12,13,14,15,16,17,18,19,20],[20,22])])
def Trw.B20:List Nat:=[0,0,2,6,14,30,0,64,192,448,960,0,2048,6144,14336,0,0,0,196608,458752,1048574,2097151,4194303,8388607]
theorem Trw.tab20:rtab .any (opsOf Try.f16 20)=Trw.T20:=by kernel_rfl
theorem Trw.bits20:waitsOk Trw.T20.2 Trw.B20=true:=by kernel_rfl
set_option maxHeartbeats 4000000 in
theorem RecordW_calls {w0:World} {G:Nat→Prop} {g:Nat} {o:Ro} {v1 v5 vL:Value} {x2 x3 x4:Int} (h:IsO w0 G w g o v1 v5 vL x2 x3 x4) (h7:o.kind=7) (r:S39) (sp:List S68) (ks:Nat) (hs:leatref11_Spans.f ks o.wk o.ws o.wl r.f1=some sp) (hl:sp.length≤1000) (hm: ∀x ∈ sp,o.mark<wrap64 (x.f1-1)) (Lf:Nat→List S70) (h0:Lf 0=o.L)
  (hk: ∀i (hi:i<sp.length),∃k,leatref11_Into.f k o.wk o.ws o.wl o.a (Lf i) r.f0 r.f1 r.f2 sp[i].f0 sp[i].f1=some (Lf (i+1))):
  Calls Try.prog 16 #[.pointer (some ⟨g,0,none⟩),aggR r] w fun e w'=>(∃v,e= .returned v)∧ ∃vL',IsO w0 (Fx G w w') w' g {o with L:=Lf sp.length} v1 v5 vL' x2 x3 x4∧Fr G w w' :=by
 have HB1:=Aside0.mk ((Below.refl w.heap.size w).alloc (Nat.le_refl _) (.cells #[.int .i64 r.f0,.int .i64 r.f1,.int .i64 r.f2] 39));have HR1:=Aside0.mk (heap_alloc_new w (.cells #[.int .i64 r.f0,.int .i64 r.f1,.int .i64 r.f2] 39));have HS1:Aside0 ((w.alloc (.cells #[.int .i64 r.f0,.int .i64 r.f1,.int .i64 r.f2] 39)).heap.size=w.heap.size+1):=⟨by simp⟩
 have HO:=Aside0.mk h;have H1:=Aside0.mk (h.below HB1.out);have HK:=Aside0.mk hk;have HM:=Aside0.mk hm;have HL0:=Aside0.mk h0;have HL:=Aside0.mk hl;have KS:=Aside0.mk (fun W=>leatref11_Spans.calls ks o.wk o.ws o.wl r.f1 sp W hs);have c0:(w.alloc (.cells #[.int .i64 r.f0,.int .i64 r.f1,.int .i64 r.f2] 39)).cell? ⟨g,0,none⟩=some (.int .i64 7):=(blk_cell H1.out.at_ 0).trans (by rw[←h7];rfl);clear h hk h7 hs hl hm h0;go_enter Try.func16,Try.ntmps16;go_wp2_with fail;generalize (w.alloc (.cells #[.int .i64 r.f0,.int .i64 r.f1,.int .i64 r.f2] 39))=w1 at HB1 HR1 HS1 H1 c0 ⊢;refine start_ (n:=9) (S:=fun w'=>w'.cell? ⟨g,7,none⟩=some (.int .i64 o.wk)∧w'.cell? ⟨g,8,none⟩=some (.int .i64 o.ws)∧w'.cell? ⟨g,9,none⟩=some (.int .i64 o.wl)∧w'.cell? ⟨w.heap.size,1,none⟩=some (.int .i64 r.f1)) (ds:=[]) #[false,false,false,false,false,false,false,false,false] (by kernel_rfl) rfl rfl ⟨(blk_cell (blk_drew H1.out.at_) 7).trans rfl,(blk_cell (blk_drew H1.out.at_) 8).trans rfl,(blk_cell (blk_drew H1.out.at_) 9).trans rfl,(blk_cell (blk_drew HR1.out) 1).trans rfl⟩ (fun hHeld=> ?_);refine with_tabW Trw.tab14 Trw.bits14 (fun HT_ HW_=> ?_);have HB2:=Aside0.mk (below_drew HB1.out);have HR2:=Aside0.mk (blk_drew HR1.out);have H2:=Aside0.mk (H1.out.below (below_drew (Below.refl _ _)));have HS2:Aside0 ((World.drew w1).heap.size=w.heap.size+1):=HS1;clear c0 HB1 HR1 H1 HS1;generalize World.drew w1=w2 at HB2 HR2 H2 HS2 hHeld ⊢;clear w1;refine pure_ (i:=0) (N:=some 75) (v:= ?_) (a' := ?_) #[true,false,false,false,false,false,false,false,false] rfl rfl (any_of HT_.out (by kernel_rfl)) (fun _ _ _ h=>h) (Or.inl ⟨by rfl,?_⟩) ?_ ?_;rotate_left
 ·intro w';go_simp
  with_reducible rfl
 rotate_left
 ·simp only[Act.put,List.setIfInBounds_toArray,List.set_cons_zero,List.set_cons_succ,i64_w,i32_w];rfl
 refine pure_ (i:=1) (N:=some 76) (v:= ?_) (a' := ?_) #[true,true,false,false,false,false,false,false,false] rfl rfl (any_of HT_.out (by kernel_rfl)) (fun _ _ _ h=>h) (Or.inl ⟨by rfl,?_⟩) ?_ ?_;rotate_left
 ·intro w';go_simp
  with_reducible rfl
 rotate_left
 ·simp only[Act.put,List.setIfInBounds_toArray,List.set_cons_zero,List.set_cons_succ,i64_w,i32_w];rfl
 refine pure_ (i:=2) (N:=some 77) (v:= ?_) (a' := ?_) #[true,true,true,false,false,false,false,false,false] rfl rfl (any_of HT_.out (by kernel_rfl)) (fun _ _ _ h=>h) (Or.inl ⟨by rfl,?_⟩) ?_ ?_;rotate_left
 ·intro w';go_simp
  with_reducible rfl
 rotate_left
 ·simp only[Act.put,List.setIfInBounds_toArray,List.set_cons_zero,List.set_cons_succ,i64_w,i32_w];rfl
 refine pure_ (i:=3) (N:=some 78) (v:= ?_) (a' := ?_) #[true,true,true,true,false,false,false,false,false] rfl rfl (any_of HT_.out (by kernel_rfl)) (fun _ _ _ h=>h) (Or.inl ⟨by rfl,?_⟩) ?_ ?_;rotate_left
 ·intro w';go_simp
  with_reducible rfl
 rotate_left
 ·simp only[Act.put,List.setIfInBounds_toArray,List.set_cons_zero,List.set_cons_succ,i64_w,i32_w];rfl
 refine take_ (i:=4) (N:=some 79) (v:= ?_) (a' := ?_) #[true,true,true,true,true,false,false,false,false] rfl rfl (take_ofW HT_.out HW_.out (by kernel_rfl)) (fun _ _ _ h=>h) (Or.inl ⟨by rfl,?_⟩) hHeld ?_ ?_;rotate_left
 ·rintro w' ⟨s0,s1,s2,s3⟩;go_simp
  with_reducible rfl
 rotate_left
 ·simp only[Act.put,List.setIfInBounds_toArray,List.set_cons_zero,List.set_cons_succ,i64_w,i32_w];rfl
 refine pure_ (i:=5) (N:=some 80) (v:= ?_) (a' := ?_) #[true,true,true,true,true,true,false,false,false] rfl rfl (any_of HT_.out (by kernel_rfl)) (fun _ _ _ h=>h) (Or.inl ⟨by rfl,?_⟩) ?_ ?_;rotate_left
 ·intro w';go_simp
  with_reducible rfl
 rotate_left
 ·simp only[Act.put,List.setIfInBounds_toArray,List.set_cons_zero,List.set_cons_succ,i64_w,i32_w];rfl
 refine take_ (i:=6) (N:=some 81) (v:= ?_) (a' := ?_) #[true,true,true,true,true,true,true,false,false] rfl rfl (take_ofW HT_.out HW_.out (by kernel_rfl)) (fun _ _ _ h=>h) (Or.inl ⟨by rfl,?_⟩) hHeld ?_ ?_;rotate_left
 ·rintro w' ⟨s0,s1,s2,s3⟩;go_simp
  with_reducible rfl
 rotate_left
 ·simp only[Act.put,List.setIfInBounds_toArray,List.set_cons_zero,List.set_cons_succ,i64_w,i32_w];rfl
 refine one_ (i:=7) (N:=some 82) #[true,true,true,true,true,true,true,true,false] rfl rfl (one_of HT_.out (by kernel_rfl)) (by decide) (fun K hK=> ?_);refine goes_ Try.func40 (by kernel_rfl) rfl #[aggW o.wk o.ws o.wl,.int .i64 r.f1] (by rfl) rfl rfl (by(try simp only[List.map_toArray,List.map_cons,List.map_nil]);first|done|rfl) ?_;refine(KS.out w2).mono ?_;rintro e w3 ⟨v3,rfl,hR3,hb3⟩;refine⟨_,rfl,?_⟩;obtain⟨A3,c3,rfl⟩:=Kd.R_slice hR3;have HF3:=Aside0.mk (Kd.F_mono (Kd.R_F (Kd.R_bound hR3)) (fun k hk=>(And.intro (by have:=HS2.out;have:=hk.2.1;omega) hk.2.2.1:w.heap.size<k∧k<w3.heap.size)));have HB3:=Aside0.mk (HB2.out.trans (hb3.mono HB2.out.size));have HR3:=Aside0.mk (blk_below HR2.out hb3);have H3:=Aside0.mk (H2.out.below hb3);refine hK.out _ _ ⟨(blk_cell H3.out.at_ 7).trans rfl,(blk_cell H3.out.at_ 8).trans rfl,(blk_cell H3.out.at_ 9).trans rfl,(blk_cell HR3.out 1).trans rfl⟩ (fun hHeld=> ?_);clear hK K;refine norm_ (a' := ?_) ?_ ?_;rotate_left
 ·show Act.put _ (some 82) _=_;simp only[Act.put,List.setIfInBounds_toArray,List.set_cons_zero,List.set_cons_succ,i64_w,i32_w];rfl
 refine pure_ (i:=8) (N:=some 5) (v:= ?_) (a' := ?_) #[true,true,true,true,true,true,true,true,true] rfl rfl (any_of HT_.out (by kernel_rfl)) (fun _ _ _ h=>h) (Or.inl ⟨by rfl,?_⟩) ?_ ?_;rotate_left
 ·intro w';go_simp
  with_reducible rfl
 rotate_left
 ·simp only[Act.put,List.setIfInBounds_toArray,List.set_cons_zero,List.set_cons_succ,i64_w,i32_w];rfl
 refine done_ (done_of HT_.out (by kernel_rfl)) ?_;have HW3:Aside0 (w.heap.size<w3.heap.size):=⟨by have:=HS2.out;have:=hb3.size;omega⟩
 clear hHeld hR3 hb3 HB2 HR2 H2 HS2;have HLQ:Aside0 (Lw w0 G w w3 g o v1 v5 x2 x3 x4 r A3 sp Lf 0 w3 G vL):=⟨⟨by rw[HL0.out];exact H3.out,Fr.refl _ _,fun k hk=>Or.inl hk,HR3.out,HF3.out⟩⟩
 clear HF3 HR3 H3;go_wp2_with fail;go_loopg [6,7] sp.length (fun kx s6 s7 wr=> ∃(i:Nat) (b:Bool) (G1:Nat→Prop) (vL1:Value),s6= .bool b∧s7= .int .i64 i∧sp.length-i≤kx∧i≤sp.length∧Aside0 (i=sp.length→b=false)∧Aside0 (Lw w0 G w w3 g o v1 v5 x2 x3 x4 r A3 sp Lf i wr G1 vL1))
 case atStart=>exact⟨0,_,G,vL,rfl,rfl,by omega,by omega,⟨fun h=>by rw[←h];rfl⟩,HLQ⟩
 case round=>
  clear HLQ;obtain⟨i,b,G1,vL1,rfl,rfl,hkx,hi,HLB,HQ⟩:=hrel;by_cases hlt:i<sp.length
  ·have hlz:((i:Int)<(sp.length:Int)):=by omega
   have hiz:(0:Int)≤(i:Int):=by omega
   obtain⟨ad,rfl,y0,y1⟩:=at_T68 (Kd.F_now HQ.out.row) (i:Int) hiz hlz;obtain⟨z,hz⟩: ∃z:S68,sp[i]=z:=⟨_,rfl⟩
   have hgd:rd_T68 sp (i:Int)=z:=by rw[←hz];simp[rd_T68,hlt]
   rw[hgd] at y0 y1;have hin:((i:Int)).toNat=i:=by omega
   rw[hin] at y0 y1;obtain⟨k1,hk1⟩:=HK.out i hlt;rw[hz] at hk1;have HK1:=Aside0.mk hk1;have hmk:=HM.out z (by rw[←hz];exact List.getElem_mem hlt);have hmd:decide (wrap64 (z.f1-1)>o.mark)=true:=decide_eq_true hmk;have hmd2:decide (o.mark<wrap64 (z.f1-1))=true:=decide_eq_true hmk;have hwi:wrap64 ((i:Int)+1)=((i+1:Nat):Int):=by have:=HL.out;unfold wrap64;omega
   have hq:=HQ.out.is.at_;have m11:=(blk_cell hq 11).trans rfl;have m7:=(blk_cell hq 7).trans rfl;have m8:=(blk_cell hq 8).trans rfl;have m9:=(blk_cell hq 9).trans rfl;have m6:=(blk_cell hq 6).trans rfl;have m10:=(blk_cell hq 10).trans rfl;have r0:=(blk_cell HQ.out.hR 0).trans rfl;have r1:=(blk_cell HQ.out.hR 1).trans rfl;have r2:=(blk_cell HQ.out.hR 2).trans rfl;have HI1:=Aside0.mk (And.intro hkx (And.intro hi hlt));have HGD:=Aside0.mk (And.intro hgd hin);clear hkx hi hlt hz hgd hin hk1 hq;go_wp2_with fail;go_region;have HBd:=Aside0.mk (below_drew (Below.refl wr.heap.size wr));have HId:=Aside0.mk (HQ.out.is.below HBd.out);have HRd:=Aside0.mk (blk_drew HQ.out.hR);have y0d:=pw_cell_below HBd.out y0;have y1d:=pw_cell_below HBd.out y1;clear y0 y1 m6 m7 m8 m9 m10 m11 r0 r1 r2 hmd hmd2;generalize World.drew wr=w5 at HBd HId HRd y0d y1d ⊢;go_wp2_with fail;refine start_ (n:=24) (S:=fun w'=>w'.cell? ⟨g,6,none⟩=some (.int .i64 o.a)∧w'.cell? ⟨g,7,none⟩=some (.int .i64 o.wk)∧w'.cell? ⟨g,8,none⟩=some (.int .i64 o.ws)∧w'.cell? ⟨g,9,none⟩=some (.int .i64 o.wl)∧w'.cell? ⟨g,10,none⟩=some vL1∧w'.cell? ⟨w.heap.size,0,none⟩=some (.int .i64 r.f0)∧w'.cell? ⟨w.heap.size,1,none⟩=some (.int .i64 r.f1)∧w'.cell? ⟨w.heap.size,2,none⟩=some (.int .i64 r.f2)∧w'.cell? (ad.add (i*2))=some (.int .i64 z.f0)∧w'.cell? ⟨(ad.add (i*2)).block,(ad.add (i*2)).off+1,none⟩=some (.int .i64 z.f1)) (ds:=[23]) #[false,false,false,false,false,false,false,false,false,false,false,false,false,false,false,false,false,false,false,false,false,false,false,false] (by kernel_rfl) rfl rfl ⟨(blk_cell (blk_drew HId.out.at_) 6).trans rfl,(blk_cell (blk_drew HId.out.at_) 7).trans rfl,(blk_cell (blk_drew HId.out.at_) 8).trans rfl,(blk_cell (blk_drew HId.out.at_) 9).trans rfl,(blk_cell (blk_drew HId.out.at_) 10).trans rfl,(blk_cell (blk_drew HRd.out) 0).trans rfl,(blk_cell (blk_drew HRd.out) 1).trans rfl,(blk_cell (blk_drew HRd.out) 2).trans rfl,pw_cell_below (below_drew (Below.refl _ _)) y0d,pw_cell_below (below_drew (Below.refl _ _)) y1d⟩ (fun hHeld=> ?_);refine with_tabW Trw.tab20 Trw.bits20 (fun HT_ HW_=> ?_);have HBe:=Aside0.mk (below_drew HBd.out);have HIe:=Aside0.mk (HId.out.below (below_drew (Below.refl _ _)));have HRe:=Aside0.mk (blk_drew HRd.out);clear HBd HId HRd y0d y1d;generalize World.drew w5=w6 at HBe HIe HRe hHeld ⊢;clear w5;refine pure_ (i:=0) (N:=some 103) (v:= ?_) (a' := ?_) #[true,false,false,false,false,false,false,false,false,false,false,false,false,false,false,false,false,false,false,false,false,false,false,false] rfl rfl (any_of HT_.out (by kernel_rfl)) (fun _ _ _ h=>h) (Or.inl ⟨by rfl,?_⟩) ?_ ?_;rotate_left
   ·intro w';go_simp
    with_reducible rfl
   rotate_left
   ·simp only[Act.put,List.setIfInBounds_toArray,List.set_cons_zero,List.set_cons_succ,i64_w,i32_w];rfl
   refine pure_ (i:=1) (N:=some 104) (v:= ?_) (a' := ?_) #[true,true,false,false,false,false,false,false,false,false,false,false,false,false,false,false,false,false,false,false,false,false,false,false] rfl rfl (any_of HT_.out (by kernel_rfl)) (fun _ _ _ h=>h) (Or.inl ⟨by rfl,?_⟩) ?_ ?_;rotate_left
   ·intro w';go_simp
    with_reducible rfl
   rotate_left
   ·simp only[Act.put,List.setIfInBounds_toArray,List.set_cons_zero,List.set_cons_succ,i64_w,i32_w];rfl
   refine pure_ (i:=2) (N:=some 105) (v:= ?_) (a' := ?_) #[true,true,true,false,false,false,false,false,false,false,false,false,false,false,false,false,false,false,false,false,false,false,false,false] rfl rfl (any_of HT_.out (by kernel_rfl)) (fun _ _ _ h=>h) (Or.inl ⟨by rfl,?_⟩) ?_ ?_;rotate_left
   ·intro w';go_simp
    with_reducible rfl
   rotate_left
   ·simp only[Act.put,List.setIfInBounds_toArray,List.set_cons_zero,List.set_cons_succ,i64_w,i32_w];rfl
   refine pure_ (i:=3) (N:=some 106) (v:= ?_) (a' := ?_) #[true,true,true,true,false,false,false,false,false,false,false,false,false,false,false,false,false,false,false,false,false,false,false,false] rfl rfl (any_of HT_.out (by kernel_rfl)) (fun _ _ _ h=>h) (Or.inl ⟨by rfl,?_⟩) ?_ ?_;rotate_left
   ·intro w';go_simp
    with_reducible rfl
   rotate_left
   ·simp only[Act.put,List.setIfInBounds_toArray,List.set_cons_zero,List.set_cons_succ,i64_w,i32_w];rfl
   refine pure_ (i:=4) (N:=some 107) (v:= ?_) (a' := ?_) #[true,true,true,true,true,false,false,false,false,false,false,false,false,false,false,false,false,false,false,false,false,false,false,false] rfl rfl (any_of HT_.out (by kernel_rfl)) (fun _ _ _ h=>h) (Or.inl ⟨by rfl,?_⟩) ?_ ?_;rotate_left
   ·intro w';go_simp
    with_reducible rfl
   rotate_left
   ·simp only[Act.put,List.setIfInBounds_toArray,List.set_cons_zero,List.set_cons_succ,i64_w,i32_w];rfl
   refine take_ (i:=5) (N:=some 108) (v:= ?_) (a' := ?_) #[true,true,true,true,true,true,false,false,false,false,false,false,false,false,false,false,false,false,false,false,false,false,false,false] rfl rfl (take_ofW HT_.out HW_.out (by kernel_rfl)) (fun _ _ _ h=>h) (Or.inl ⟨by rfl,?_⟩) hHeld ?_ ?_;rotate_left
   ·rintro w' ⟨s0,s1,s2,s3,s4,s5,s6,s7,s8,s9⟩;go_simp
    with_reducible rfl
   rotate_left
   ·simp only[Act.put,List.setIfInBounds_toArray,List.set_cons_zero,List.set_cons_succ,i64_w,i32_w];rfl
   refine pure_ (i:=6) (N:=some 109) (v:= ?_) (a' := ?_) #[true,true,true,true,true,true,true,false,false,false,false,false,false,false,false,false,false,false,false,false,false,false,false,false] rfl rfl (any_of HT_.out (by kernel_rfl)) (fun _ _ _ h=>h) (Or.inl ⟨by rfl,?_⟩) ?_ ?_;rotate_left
   ·intro w';go_simp
    with_reducible rfl
   rotate_left
   ·simp only[Act.put,List.setIfInBounds_toArray,List.set_cons_zero,List.set_cons_succ,i64_w,i32_w];rfl
   refine pure_ (i:=7) (N:=some 110) (v:= ?_) (a' := ?_) #[true,true,true,true,true,true,true,true,false,false,false,false,false,false,false,false,false,false,false,false,false,false,false,false] rfl rfl (any_of HT_.out (by kernel_rfl)) (fun _ _ _ h=>h) (Or.inl ⟨by rfl,?_⟩) ?_ ?_;rotate_left
   ·intro w';go_simp
    with_reducible rfl
   rotate_left
   ·simp only[Act.put,List.setIfInBounds_toArray,List.set_cons_zero,List.set_cons_succ,i64_w,i32_w];rfl
   refine pure_ (i:=8) (N:=some 111) (v:= ?_) (a' := ?_) #[true,true,true,true,true,true,true,true,true,false,false,false,false,false,false,false,false,false,false,false,false,false,false,false] rfl rfl (any_of HT_.out (by kernel_rfl)) (fun _ _ _ h=>h) (Or.inl ⟨by rfl,?_⟩) ?_ ?_;rotate_left
   ·intro w';go_simp
    with_reducible rfl
   rotate_left
   ·simp only[Act.put,List.setIfInBounds_toArray,List.set_cons_zero,List.set_cons_succ,i64_w,i32_w];rfl
   refine pure_ (i:=9) (N:=some 112) (v:= ?_) (a' := ?_) #[true,true,true,true,true,true,true,true,true,true,false,false,false,false,false,false,false,false,false,false,false,false,false,false] rfl rfl (any_of HT_.out (by kernel_rfl)) (fun _ _ _ h=>h) (Or.inl ⟨by rfl,?_⟩) ?_ ?_;rotate_left
   ·intro w';go_simp
    with_reducible rfl
   rotate_left
   ·simp only[Act.put,List.setIfInBounds_toArray,List.set_cons_zero,List.set_cons_succ,i64_w,i32_w];rfl
   refine take_ (i:=10) (N:=some 113) (v:= ?_) (a' := ?_) #[true,true,true,true,true,true,true,true,true,true,true,false,false,false,false,false,false,false,false,false,false,false,false,false] rfl rfl (take_ofW HT_.out HW_.out (by kernel_rfl)) (fun _ _ _ h=>h) (Or.inl ⟨by rfl,?_⟩) hHeld ?_ ?_;rotate_left
   ·rintro w' ⟨s0,s1,s2,s3,s4,s5,s6,s7,s8,s9⟩;go_simp
    with_reducible rfl
   rotate_left
   ·simp only[Act.put,List.setIfInBounds_toArray,List.set_cons_zero,List.set_cons_succ,i64_w,i32_w];rfl
   refine pure_ (i:=11) (N:=some 114) (v:= ?_) (a' := ?_) #[true,true,true,true,true,true,true,true,true,true,true,true,false,false,false,false,false,false,false,false,false,false,false,false] rfl rfl (any_of HT_.out (by kernel_rfl)) (fun _ _ _ h=>h) (Or.inl ⟨by rfl,?_⟩) ?_ ?_;rotate_left
   ·intro w';go_simp
    with_reducible rfl
   rotate_left
   ·simp only[Act.put,List.setIfInBounds_toArray,List.set_cons_zero,List.set_cons_succ,i64_w,i32_w];rfl
   refine pure_ (i:=12) (N:=some 115) (v:= ?_) (a' := ?_) #[true,true,true,true,true,true,true,true,true,true,true,true,true,false,false,false,false,false,false,false,false,false,false,false] rfl rfl (any_of HT_.out (by kernel_rfl)) (fun _ _ _ h=>h) (Or.inl ⟨by rfl,?_⟩) ?_ ?_;rotate_left
   ·intro w';go_simp
    with_reducible rfl
   rotate_left
   ·simp only[Act.put,List.setIfInBounds_toArray,List.set_cons_zero,List.set_cons_succ,i64_w,i32_w];rfl
   refine pure_ (i:=13) (N:=some 116) (v:= ?_) (a' := ?_) #[true,true,true,true,true,true,true,true,true,true,true,true,true,true,false,false,false,false,false,false,false,false,false,false] rfl rfl (any_of HT_.out (by kernel_rfl)) (fun _ _ _ h=>h) (Or.inl ⟨by rfl,?_⟩) ?_ ?_;rotate_left
   ·intro w';go_simp
    with_reducible rfl
   rotate_left
   ·simp only[Act.put,List.setIfInBounds_toArray,List.set_cons_zero,List.set_cons_succ,i64_w,i32_w];rfl
   refine take_ (i:=14) (N:=some 117) (v:= ?_) (a' := ?_) #[true,true,true,true,true,true,true,true,true,true,true,true,true,true,true,false,false,false,false,false,false,false,false,false] rfl rfl (take_ofW HT_.out HW_.out (by kernel_rfl)) (fun _ _ _ h=>h) (Or.inl ⟨by rfl,?_⟩) hHeld ?_ ?_;rotate_left
   ·rintro w' ⟨s0,s1,s2,s3,s4,s5,s6,s7,s8,s9⟩;go_simp
    with_reducible rfl
   rotate_left
   ·simp only[Act.put,List.setIfInBounds_toArray,List.set_cons_zero,List.set_cons_succ,i64_w,i32_w];rfl
   refine take_ (i:=15) (N:=some 118) (v:= ?_) (a' := ?_) #[true,true,true,true,true,true,true,true,true,true,true,true,true,true,true,true,false,false,false,false,false,false,false,false] rfl rfl (take_ofW HT_.out HW_.out (by kernel_rfl)) (fun _ _ _ h=>h) (Or.inl ⟨by rfl,?_⟩) hHeld ?_ ?_;rotate_left
   ·rintro w' ⟨s0,s1,s2,s3,s4,s5,s6,s7,s8,s9⟩;go_simp
    with_reducible rfl
   rotate_left
   ·simp only[Act.put,List.setIfInBounds_toArray,List.set_cons_zero,List.set_cons_succ,i64_w,i32_w];rfl
   refine pure_ (i:=16) (N:=some 119) (v:= ?_) (a' := ?_) #[true,true,true,true,true,true,true,true,true,true,true,true,true,true,true,true,true,false,false,false,false,false,false,false] rfl rfl (any_of HT_.out (by kernel_rfl)) (fun _ _ _ h=>h) (Or.inl ⟨by rfl,?_⟩) ?_ ?_;rotate_left
   ·intro w';go_simp
    with_reducible rfl
   rotate_left
   ·simp only[Act.put,List.setIfInBounds_toArray,List.set_cons_zero,List.set_cons_succ,i64_w,i32_w];rfl
   refine pure_ (i:=17) (N:=some 120) (v:= ?_) (a' := ?_) #[true,true,true,true,true,true,true,true,true,true,true,true,true,true,true,true,true,true,false,false,false,false,false,false] rfl rfl (any_of HT_.out (by kernel_rfl)) (fun _ _ _ h=>h) (Or.inl ⟨by rfl,?_⟩) ?_ ?_;rotate_left
   ·intro w';go_simp
    with_reducible rfl
   rotate_left
   ·simp only[Act.put,List.setIfInBounds_toArray,List.set_cons_zero,List.set_cons_succ,i64_w,i32_w];rfl
   refine pure_ (i:=18) (N:=some 121) (v:= ?_) (a' := ?_) #[true,true,true,true,true,true,true,true,true,true,true,true,true,true,true,true,true,true,true,false,false,false,false,false] rfl rfl (any_of HT_.out (by kernel_rfl)) (fun _ _ _ h=>h) (Or.inl ⟨by rfl,?_⟩) ?_ ?_;rotate_left
   ·intro w';go_simp
    with_reducible rfl
   rotate_left
   ·simp only[Act.put,List.setIfInBounds_toArray,List.set_cons_zero,List.set_cons_succ,i64_w,i32_w];rfl
   refine take_ (i:=19) (N:=some 122) (v:= ?_) (a' := ?_) #[true,true,true,true,true,true,true,true,true,true,true,true,true,true,true,true,true,true,true,true,false,false,false,false] rfl rfl (take_ofW HT_.out HW_.out (by kernel_rfl)) (fun _ _ _ h=>h) (Or.inl ⟨by rfl,?_⟩) hHeld ?_ ?_;rotate_left
   ·rintro w' ⟨s0,s1,s2,s3,s4,s5,s6,s7,s8,s9⟩;go_simp
    with_reducible rfl
   rotate_left
   ·simp only[Act.put,List.setIfInBounds_toArray,List.set_cons_zero,List.set_cons_succ,i64_w,i32_w];rfl
   refine one_ (i:=20) (N:=some 123) #[true,true,true,true,true,true,true,true,true,true,true,true,true,true,true,true,true,true,true,true,true,false,false,false] rfl rfl (one_of HT_.out (by kernel_rfl)) (by decide) (fun K hK=> ?_);refine goes_ Try.func38 (by kernel_rfl) rfl #[aggW o.wk o.ws o.wl,.int .i64 o.a,vL1,aggR r,aggSp z] (by rfl) rfl rfl (by(try simp only[List.map_toArray,List.map_cons,List.map_nil]);first|done|rfl) ?_;refine(into_in HIe.out o.wk o.ws o.wl r z k1 HK1.out).mono ?_;rintro e w7 ⟨v7,rfl,hR7,hf7⟩;refine⟨_,rfl,?_⟩;obtain⟨A7,c7,rfl⟩:=Kd.R_slice hR7;have HN:=Aside0.mk (HQ.out.next (fun k hk=>(HO.out.bound k hk).2) HW3.out HBe.out hf7 hR7);have hq7:=(hf7.block g (HIe.out.bound g HIe.out.gG).2 (fun m=>m.2 rfl)).trans HIe.out.at_
   have hr7:=(hf7.block w.heap.size (lt_of_block HRe.out) (fun m=>by
    rcases HQ.out.old _ m.1 with h|h
    ·have:=(HO.out.bound _ h).2;omega
    ·have:=HW3.out;omega)).trans HRe.out
   have f10:=blk_frozen hq7 10;have k10:=(blk_cell hq7 10).trans rfl
   have hF7:Kd.F k68 w7 (fun k=>w.heap.size<k∧k<w3.heap.size) (some ad) sp.length sp:=Kd.F_step (Kd.F_below HQ.out.row HBe.out) (fun k hk hlt=>hf7.block k hlt (fun m=>by
    rcases HQ.out.old _ m.1 with h|h
    ·have:=(HO.out.bound _ h).2;omega
    ·omega))
   obtain⟨ad',e7,z0,z1⟩:=at_T68 (Kd.F_now hF7) (i:Int) hiz hlz;cases e7;rw[HGD.out.1,HGD.out.2] at z0 z1;clear hF7;refine hK.out _ _ ⟨(blk_cell hq7 6).trans rfl,(blk_cell hq7 7).trans rfl,(blk_cell hq7 8).trans rfl,(blk_cell hq7 9).trans rfl,k10,(blk_cell hr7 0).trans rfl,(blk_cell hr7 1).trans rfl,(blk_cell hr7 2).trans rfl,z0,z1⟩ (fun hHeld=> ?_);clear hK K;refine norm_ (a' := ?_) ?_ ?_;rotate_left
   ·show Act.put _ (some 123) _=_;simp only[Act.put,List.setIfInBounds_toArray,List.set_cons_zero,List.set_cons_succ,i64_w,i32_w];rfl
   refine pure_ (i:=21) (N:=some 124) (v:= ?_) (a' := ?_) #[true,true,true,true,true,true,true,true,true,true,true,true,true,true,true,true,true,true,true,true,true,true,false,false] rfl rfl (any_of HT_.out (by kernel_rfl)) (fun _ _ _ h=>h) (Or.inl ⟨by rfl,?_⟩) ?_ ?_;rotate_left
   ·intro w';go_simp
    with_reducible rfl
   rotate_left
   ·simp only[Act.put,List.setIfInBounds_toArray,List.set_cons_zero,List.set_cons_succ,i64_w,i32_w];rfl
   refine pure_ (i:=22) (N:=some 125) (v:= ?_) (a' := ?_) #[true,true,true,true,true,true,true,true,true,true,true,true,true,true,true,true,true,true,true,true,true,true,true,false] rfl rfl (any_of HT_.out (by kernel_rfl)) (fun _ _ _ h=>h) (Or.inl ⟨by rfl,?_⟩) ?_ ?_;rotate_left
   ·intro w';go_simp
    with_reducible rfl
   rotate_left
   ·simp only[Act.put,List.setIfInBounds_toArray,List.set_cons_zero,List.set_cons_succ,i64_w,i32_w];rfl
   refine last_ (i:=23) (N:=none) #[true,true,true,true,true,true,true,true,true,true,true,true,true,true,true,true,true,true,true,true,true,true,true,true] rfl rfl (one_of HT_.out (by kernel_rfl)) (by decide) (fun K hK=> ?_);refine skip_ (w1:=w7.setCell ⟨g,10,none⟩ (.slice A7 (Lf (i+1)).length c7)) (by rfl) rfl ?_ ?_
   ·go_simp
    first|done|rfl|simp[Result.andThen]
   refine hK.out _ _ ?_;clear hK K;refine done_ (done_of HT_.out (by kernel_rfl)) ?_;clear hR7 hf7 hq7 hr7 f10 k10 hHeld HIe HRe HBe z0 z1;go_wp2_with fail;rw[hwi];go_roundg (sp.length- (i+1))
   case measure=>have:=HI1.out;omega
   case rel=>exact⟨i+1,false,_,_,rfl,rfl,Nat.le_refl _,HI1.out.2.2,⟨fun _=>rfl⟩,HN⟩
  ·have hlz: ¬((i:Int)<(sp.length:Int)):=by omega
   have hil:i=sp.length:=by omega
   have hb:=HLB.out hil;subst hb;have HI1:=Aside0.mk hil;clear hlt hkx hi hil;go_wp2;go_ret;have hI:=HQ.out.is;rw[HI1.out] at hI;have s1:=HB3.out.size;refine⟨⟨_,rfl⟩,⟨vL1,⟨hI.at_,Kd.R_mono (Kd.R_bound hI.row) (fun k hk=>⟨?_,hk.1.2⟩),hI.bl,Or.inl HO.out.gG,hI.gb,fun k hk=> ?_⟩⟩,((Fr.refl G w).below HB3.out).trans HQ.out.fr⟩
   ·rcases HQ.out.old k hk.1.1 with h|h
    ·exact Or.inl h
    ·exact Or.inr ⟨by omega,hk.2.2.1⟩
   ·rcases hk with hk|hk
    ·exact⟨(HO.out.bound k hk).1,by have:=(HO.out.bound k hk).2;have:=HQ.out.fr.size;omega⟩
    ·exact⟨by have:=HO.out.bl.size;omega,hk.2⟩
end Go.Proofs.Ytjegeghigfmkoaa.T
namespace Go.Proofs.Ytjegeghigfmkoaa.T
open Go.RowKit Go.Maps Go.Sort Go.Proofs Go.Proofs.Ytjegeghigfmkoaa Go.Proofs.Ytjegeghigfmkoaa.X Go.Proofs.YtjegeghigfmkoaaW.PrintWords Go.Proofs.YtjegeghigfmkoaaW.PrintLast Go.Proofs.YtjegeghigfmkoaaW.PrintMore
set_option linter.unusedVariables false
set_option linter.unusedSimpArgs false
set_option maxRecDepth 100000
variable {F:Nat→Prop} {N:Nat} {w w' :World} {q b1 b2:Nat} {tv:Value} {tm:List Int} {s:St}
theorem puts_one {kind a key val:Int} {ps ps' :List S70} {sp:S68} (h:Puts kind a key val ps [sp] ps'):IntoS kind a key val sp ps ps' :=by
 generalize hl:[sp]=l at h;cases h with
 |nil=>cases hl
 | @snoc sps sp' ps1 _ h k=>
  have hl2:=hl;rcases sps with _|⟨x,r⟩
  ·simp at hl;subst hl;generalize hn:([]:List S68)=e at h;cases h with
   |nil=>exact k
   |snoc h2 k2=>simp at hn
  ·simp at hl
theorem fit10:Th.Fit 1 10 0:=⟨by omega,by omega,by omega,by omega,fun h=>absurd h (by omega),fun _=>rfl⟩
theorem sp10 (t:Int) (ht:0≤t∧t<10):SpS 1 10 0 t [⟨0,10⟩]:=by
 refine Or.inr ⟨by omega,?_⟩;have h:=Th.spans_ev fit10 (t:=t) ⟨by omega,by omega⟩
 have e:Th.spansP 1 10 0 t=[⟨0,10⟩]:=by
  have:Th.fl t 10=0:=by unfold Th.fl;omega
  unfold Th.spansP;rw[if_pos rfl,this];rfl
 rw[e] at h;obtain⟨k,hk⟩:=h;exact⟨k,hk k (Nat.le_refl _)⟩
def p5:S70:=⟨1,⟨0,10⟩,5⟩
def p7:S70:=⟨1,⟨0,10⟩,7⟩
theorem into1 {ps' :List S70} (h:IntoS 1 1 1 5 ⟨0,10⟩ [] ps'):ps'=[p5]:=by
 unfold IntoS at h;rw[if_neg (by decide)] at h;rw[h]
 kernel_rfl
theorem into2 {ps' :List S70} (h:IntoS 1 1 1 2 ⟨0,10⟩ [p5] ps'):ps'=[p7]:=by
 unfold IntoS at h;rw[if_neg (by decide)] at h;rw[h]
 kernel_rfl
theorem sort1 (p:S70):sortP [p]=[p]:=Th.sortP_same (List.pairwise_singleton _ _)
theorem p7_64:P64 p7:=⟨by unfold I64 p7;decide,by unfold I64 p7;decide,by unfold I64 p7;decide,by unfold I64 p7;decide⟩
theorem b7_len:(bytesB [p7]).length=36:=by rw[bytesB_len];rfl
theorem read7:readB (bytesB [p7])=[p7]:=by
 unfold readB;rw[b7_len]
 have e:(bytesB [p7]).drop 4=panesB [p7]:=by
  unfold bytesB;rw[List.drop_append,numB_len,List.drop_eq_nil_of_le (by rw[numB_len];omega)];rfl
 rw[e];exact parse_B [p7] (fun p hp=>by rw[List.mem_singleton.1 hp];exact p7_64)
theorem load7:loadL 1 [p7]=[p7]:=by kernel_rfl
theorem open7:openL 1 1 (bytesB [p7])=[p7]:=by
 rw[openL,read7,loadOf,if_neg (by decide),load7]
theorem ok7:OpenOk 1 1 (bytesB [p7]):=by
 refine⟨⟨by rw[b7_len];omega,by rw[b7_len]⟩,?_⟩;rw[open7,sort1]
theorem no7 (b:List Int) (h:b.length=18): ¬OpenOk 1 1 b:=fun h2=>by
 have:=h2.1.2;omega
theorem fired7:firedR ⟨1,10,0,1,[p7]⟩ 9=[⟨1,9,7⟩]:=by
 unfold firedR;rw[sort1]
 kernel_rfl
theorem left7:firedL ⟨1,10,0,1,[p7]⟩ 9=[]:=by
 unfold firedL;rw[sort1];have:Th.leftR 9 [p7]=[]:=by kernel_rfl
 rw[this];rfl
theorem idle7: ¬Idle ⟨1,10,0,1,[p7]⟩ 9:=fun h=>by
 rcases h with ⟨h,_⟩|h
 ·cases h
 ·have h:=h p7 (List.mem_singleton.2 rfl);have e:lastP p7=9:=by kernel_rfl
  omega
theorem R_one39 (w:World) (B:Nat) (hB:B≤w.heap.size) (x:S39):Kd.R k39 39 (w.alloc (.cells #[.int .i64 x.f0,.int .i64 x.f1,.int .i64 x.f2] 39)) B (fun _=>True) (.slice (some ⟨w.heap.size,0,none⟩) 1 1) [x]:=
 ⟨fun _ _=>trivial,_,World.ownsRow_lit (e:=39) (size:=3) w #[.int .i64 x.f0,.int .i64 x.f1,.int .i64 x.f2] 1 hB (by unfold maxLen;omega) rfl,Reps.c3 (k39_mkM _ _ _ x) (Reps.none _ _)⟩
theorem IsS.wide {w1 wa wb:World} {N' :Nat} {s' :St} (h:To (fun k=>w1.heap.size≤k∧k<wa.heap.size) wa wb N' q s') (h1:w1.heap.size≤wa.heap.size):IsS (fun k=>w1.heap.size≤k∧k<wb.heap.size) N' wb q s' :=
 h.is.mono (fun k hk=>by
  have:=h.fr.size;rcases hk with hk|hk
  ·exact⟨hk.1,by omega⟩
  ·exact⟨by omega,hk.2⟩) (fun k hk=>hk.2) (Nat.le_refl _) h.is.small
def Tkn.T11:Bool×List (List Nat×List Nat):=(true,[([],[]),([],[]),([],[]),([2],[2]),([3],[3]),([1,4],[1,4]),([0,5],[0,5]),([6],[6]),([7],[7]),([7],[7]),([8,6,0,1,2,3,4,5,6,7,8],[8]),([9,10,0,1,2,3,4,5,6,7,8,9,10],[9])])
def Tkn.B11:List Nat:=[0,0,0,4,12,30,63,127,255,255,511,2047]
theorem Tkn.tab11:rtab .any (opsOf Try.f9 11)=Tkn.T11:=by kernel_rfl
theorem Tkn.bits11:waitsOk Tkn.T11.2 Tkn.B11=true:=by kernel_rfl
set_option maxHeartbeats 8000000 in
theorem known_calls (w:World):Calls Try.prog 9 #[] w fun e w'=>e= .returned (.bool true)∧Below w.heap.size w w' :=by
  go_enter Try.func9,Try.ntmps9;go_wp2_with fail;have HW1:=Aside0.mk (heap_alloc_new w (.cells #[.int .i64 1,.int .i64 10,.int .i64 0] 23));have HB1:=Aside0.mk ((Below.refl w.heap.size w).alloc (Nat.le_refl _) (.cells #[.int .i64 1,.int .i64 10,.int .i64 0] 23));generalize (w.alloc (.cells #[.int .i64 1,.int .i64 10,.int .i64 0] 23))=w1 at HW1 HB1 ⊢
  go_wp2_with (first
    | (go_at_call 11
       refine(New_calls w1 1 10 0 1).mono ?_;rintro e w2 ⟨q,rfl,hI,hb⟩;have HI2:=Aside0.mk hI;have HB2:=Aside0.mk hb;clear hI hb)
    | (go_at_call 15
       refine(Put_calls HI2.out ⟨1,3,5⟩ (by unfold I64;decide) [⟨0,10⟩] (sp10 3 (by decide)) (by intro x hx;rw[List.mem_singleton.1 hx];unfold I64;decide) (by decide) (by decide)).mono ?_;rintro e w3 ⟨rfl,N3,ps3,hto,hN,hp⟩;obtain rfl:=into1 (puts_one hp);have HB3:=Aside0.mk (HB2.out.trans (hto.fr.toBelow (B:=w1.heap.size) HB2.out.size (fun k _ hk=>hk.1)));have HI3:=Aside0.mk (IsS.wide hto HB2.out.size);have HN3:=Aside0.mk hN;clear hto hN hp HI2 HB2)
    | (go_at_call 15
       refine(Put_calls HI3.out ⟨1,7,2⟩ (by unfold I64;decide) [⟨0,10⟩] (sp10 7 (by decide)) (by intro x hx;rw[List.mem_singleton.1 hx];unfold I64;decide) (by decide) (by have h:N3+[p5].length≤0+0+2*1:=HN3.out;show N3+[p5].length+128≤_;omega)).mono ?_;rintro e w4 ⟨rfl,N4,ps4,hto,hN,hp⟩;obtain rfl:=into2 (puts_one hp);have HB4:=Aside0.mk (HB3.out.trans (hto.fr.toBelow (B:=w1.heap.size) HB3.out.size (fun k _ hk=>hk.1)));have HI4:=Aside0.mk (IsS.wide hto HB3.out.size);clear hto hN hp HI3 HB3)
    | (go_at_call 21
       refine(Panes_calls HI4.out).mono ?_;rintro e w5 ⟨v5,rfl,hR,hb⟩;rw[sort1] at hR;obtain⟨A5,c5,rfl⟩:=Kd.R_slice hR;have HF5:=Aside0.mk (Kd.F_mono (Kd.R_F (Kd.R_bound hR)) (fun k hk=>(And.intro hk.2.1 hk.2.2.1:w4.heap.size≤k∧k<w5.heap.size)));have HB5:=Aside0.mk hb;clear hR hb)
    | (go_at_call 29
       refine(Next_calls (HI4.out.below HB5.out)).mono ?_;rintro e w6 ⟨t,b,rfl,hn,hto⟩
       have ht:t=9∧b=true:=by
         rcases hn with ⟨_,_,h⟩|⟨h1,⟨p,hp,h2⟩,_⟩
         · cases h
         · rw[List.mem_singleton.1 hp] at h2
           exact⟨h2.symm.trans (by kernel_rfl),h1⟩
       obtain⟨rfl,rfl⟩:=ht;have HTO:=Aside0.mk hto;have HF6:=Aside0.mk (Kd.F_step HF5.out (fun k hk hlt=>hto.fr.block k hlt (fun h=>by have:=hk.1;have:=h.2;omega)));clear hn hto HF5)
    | (go_at_call 23
       refine(Bytes_calls HTO.out.is).mono ?_;rintro e w7 ⟨v7,rfl,hR,hb⟩;rw[sort1] at hR;obtain⟨A7,c7,rfl⟩:=Kd.R_slice hR;have HR7:=Aside0.mk hR;have HB7:=Aside0.mk hb;have hlt1:=lt_of_block HW1.out;have hw4:=(HB4.out.block _ hlt1).trans HW1.out;have hw5:=blk_below hw4 HB5.out;have hw6:=(HTO.out.fr.block _ (lt_of_block hw5) (fun h=>by have:=h.1;omega)).trans hw5;have hw7:=blk_below hw6 hb;have HW7:=Aside0.mk hw7;have u0:=(blk_cell hw7 0).trans rfl;have u1:=(blk_cell hw7 1).trans rfl;have u2:=(blk_cell hw7 2).trans rfl;rw[b7_len];clear hR hb hw4 hw5 hw6 hw7 hlt1)
    | (go_at_call 22
       have KO:=Open_calls w7 1 10 0 1 A7 c7 _ (Kd.R_reads' HR7.out).2.2 (Kd.R_reads' HR7.out).2.1 (by rw[b7_len];decide) (bytesB_8 _);rw[b7_len] at KO;refine KO.mono ?_;clear KO;rintro e w8 ⟨hb8,h8⟩;rcases h8 with ⟨h8,_⟩|⟨_,q8,N8,rfl,_,h8⟩
       · exact absurd ok7 h8
       rw[open7] at h8;have HT8:=Aside0.mk h8;have HB8:=Aside0.mk hb8;clear h8 hb8)
    |fail)
  have hb8:=HB8.out;have hw8:=blk_below HW7.out hb8;refine start_ (n:=12) (S:=fun w'=>w'.cell? ⟨w.heap.size,0,none⟩=some (.int .i64 1)∧w'.cell? ⟨w.heap.size,1,none⟩=some (.int .i64 10)∧w'.cell? ⟨w.heap.size,2,none⟩=some (.int .i64 0)) (ds:=[]) #[false,false,false,false,false,false,false,false,false,false,false,false] (by kernel_rfl) rfl rfl ⟨(blk_cell (blk_drew hw8) 0).trans rfl,(blk_cell (blk_drew hw8) 1).trans rfl,(blk_cell (blk_drew hw8) 2).trans rfl⟩ (fun hHeld=> ?_);refine with_tabW Tkn.tab11 Tkn.bits11 (fun HT_ HW_=> ?_);have HB9:=Aside0.mk (below_drew hb8);have HT9:=Aside0.mk (HT8.out.below (below_drew (Below.refl _ _)));have HW9:=Aside0.mk (blk_drew hw8);have hc36:36≤c7:=by have:=(Kd.R_reads' HR7.out).2.1;rw[b7_len] at this;exact this
  have hc18:18≤c7:=by omega
  clear hb8 hw8 HB8;generalize hw9:World.drew w8=w9 at HB9 HT9 HW9 hHeld ⊢;have h18:wrap64 18=18:=by kernel_rfl
  have hsl: ∀W,(Instr.slice 58 (.slice A7 36 c7) none (some (.int .i64 18)) none).run Try.prog W= .ok (.slice A7 18 c7) W:=fun W=>to_run A7 36 c7 18 (by decide) hc36 W
  refine take_ (i:=0) (N:=some 39) (v:= ?_) (a' := ?_) #[true,false,false,false,false,false,false,false,false,false,false,false] rfl rfl (take_ofW HT_.out HW_.out (by kernel_rfl)) (fun _ _ _ h=>h) (Or.inl ⟨by rfl,?_⟩) hHeld ?_ ?_;rotate_left
  · rintro w' ⟨s0,s1,s2⟩
    go_simp
    with_reducible rfl
  rotate_left
  · simp only[Act.put,List.setIfInBounds_toArray,List.set_cons_zero,List.set_cons_succ,i64_w,i32_w]
    rfl
  refine pure_ (i:=1) (N:=some 40) (v:= ?_) (a' := ?_) #[true,true,false,false,false,false,false,false,false,false,false,false] rfl rfl (any_of HT_.out (by kernel_rfl)) (fun _ _ _ h=>h) (Or.inl ⟨by rfl,?_⟩) ?_ ?_;rotate_left
  · intro w'
    go_simp
    with_reducible rfl
  rotate_left
  · simp only[Act.put,List.setIfInBounds_toArray,List.set_cons_zero,List.set_cons_succ,i64_w,i32_w]
    rfl
  refine pure_ (i:=2) (N:=some 41) (v:= ?_) (a' := ?_) #[true,true,true,false,false,false,false,false,false,false,false,false] rfl rfl (any_of HT_.out (by kernel_rfl)) (fun _ _ _ h=>h) (Or.inl ⟨by rfl,?_⟩) ?_ ?_;rotate_left
  · intro w'
    go_simp
    with_reducible rfl
  rotate_left
  · simp only[Act.put,List.setIfInBounds_toArray,List.set_cons_zero,List.set_cons_succ,i64_w,i32_w]
    rfl
  refine pure_ (i:=3) (N:=some 42) (v:= ?_) (a' := ?_) #[true,true,true,true,false,false,false,false,false,false,false,false] rfl rfl (any_of HT_.out (by kernel_rfl)) (fun _ _ _ h=>h) (Or.inl ⟨by rfl,?_⟩) ?_ ?_;rotate_left
  · intro w'
    go_simp
    with_reducible rfl
  rotate_left
  · simp only[Act.put,List.setIfInBounds_toArray,List.set_cons_zero,List.set_cons_succ,i64_w,i32_w]
    rfl
  refine pure_ (i:=4) (N:=some 43) (v:= ?_) (a' := ?_) #[true,true,true,true,true,false,false,false,false,false,false,false] rfl rfl (any_of HT_.out (by kernel_rfl)) (fun _ _ _ h=>h) (Or.inl ⟨by rfl,?_⟩) ?_ ?_;rotate_left
  · intro w'
    go_simp
    with_reducible rfl
  rotate_left
  · simp only[Act.put,List.setIfInBounds_toArray,List.set_cons_zero,List.set_cons_succ,i64_w,i32_w]
    rfl
  refine pure_ (i:=5) (N:=some 44) (v:= ?_) (a' := ?_) #[true,true,true,true,true,true,false,false,false,false,false,false] rfl rfl (any_of HT_.out (by kernel_rfl)) (fun _ _ _ h=>h) (Or.inl ⟨by rfl,?_⟩) ?_ ?_;rotate_left
  · intro w'
    go_simp
    with_reducible rfl
  rotate_left
  · simp only[Act.put,List.setIfInBounds_toArray,List.set_cons_zero,List.set_cons_succ,i64_w,i32_w]
    rfl
  have len18:((bytesB [p7]).take 18).length=18:=by rw[List.length_take,b7_len];rfl
  have KO:=Open_calls w9 1 10 0 1 A7 c7 ((bytesB [p7]).take 18) (Kd.C_take (Kd.C_below (Kd.R_reads' HR7.out).2.2 HB9.out) (by rw[b7_len];decide)) (by rw[len18];exact hc18) (by rw[len18];decide) (fun x hx=>bytesB_8 _ x (List.mem_of_mem_take hx))
  have KO:=KO.mono (R' :=fun e w'=>e= .returned (.tuple #[.pointer none,.int .i64 120])∧Below w9.heap.size w9 w') (fun e w' h=>⟨by
    rcases h.2 with h2|h2
    · exact h2.2
    · exact absurd h2.1 (no7 _ len18),h.1⟩)
  rw[len18] at KO;clear h18 hsl;refine one_ (i:=6) (N:=some 45) #[true,true,true,true,true,true,true,false,false,false,false,false] rfl rfl (one_of HT_.out (by kernel_rfl)) (by decide) (fun K hK=> ?_);refine goes_ Try.func22 (by kernel_rfl) rfl #[aggW 1 10 0,.int .i64 1,.slice A7 18 c7] (by rfl) rfl rfl (by(try simp only[List.map_toArray,List.map_cons,List.map_nil]);first|done|rfl) ?_;refine(KO).mono ?_;rintro e w10 ⟨rfl,hb10⟩;refine⟨_,rfl,?_⟩;have HB10:=Aside0.mk hb10;have hw10:=blk_below HW9.out hb10;refine hK.out _ _ ⟨(blk_cell hw10 0).trans rfl,(blk_cell hw10 1).trans rfl,(blk_cell hw10 2).trans rfl⟩ (fun hHeld=> ?_);clear hK K;refine norm_ (a' := ?_) ?_ ?_;rotate_left
  · show Act.put _ (some 45) _=_
    simp only[Act.put,List.setIfInBounds_toArray,List.set_cons_zero,List.set_cons_succ,i64_w,i32_w];rfl
  refine pure_ (i:=7) (N:=some 38) (v:= ?_) (a' := ?_) #[true,true,true,true,true,true,true,true,false,false,false,false] rfl rfl (any_of HT_.out (by kernel_rfl)) (fun _ _ _ h=>h) (Or.inl ⟨by rfl,?_⟩) ?_ ?_;rotate_left
  · intro w'
    go_simp
    with_reducible rfl
  rotate_left
  · simp only[Act.put,List.setIfInBounds_toArray,List.set_cons_zero,List.set_cons_succ,i64_w,i32_w]
    rfl
  refine pure_ (i:=8) (N:=some 46) (v:= ?_) (a' := ?_) #[true,true,true,true,true,true,true,true,true,false,false,false] rfl rfl (any_of HT_.out (by kernel_rfl)) (fun _ _ _ h=>h) (Or.inl ⟨by rfl,?_⟩) ?_ ?_;rotate_left
  · intro w'
    go_simp
    with_reducible rfl
  rotate_left
  · simp only[Act.put,List.setIfInBounds_toArray,List.set_cons_zero,List.set_cons_succ,i64_w,i32_w]
    rfl
  refine pure_ (i:=9) (N:=some 47) (v:= ?_) (a' := ?_) #[true,true,true,true,true,true,true,true,true,true,false,false] rfl rfl (any_of HT_.out (by kernel_rfl)) (fun _ _ _ h=>h) (Or.inl ⟨by rfl,?_⟩) ?_ ?_;rotate_left
  · intro w'
    go_simp
    with_reducible rfl
  rotate_left
  · simp only[Act.put,List.setIfInBounds_toArray,List.set_cons_zero,List.set_cons_succ,i64_w,i32_w]
    rfl
  refine pure_ (i:=10) (N:=some 9) (v:= ?_) (a' := ?_) #[true,true,true,true,true,true,true,true,true,true,true,false] rfl rfl (any_of HT_.out (by kernel_rfl)) (fun _ _ _ h=>h) (Or.inl ⟨by rfl,?_⟩) ?_ ?_;rotate_left
  · intro w'
    go_simp
    with_reducible rfl
  rotate_left
  · simp only[Act.put,List.setIfInBounds_toArray,List.set_cons_zero,List.set_cons_succ,i64_w,i32_w]
    rfl
  refine pure_ (i:=11) (N:=some 10) (v:= ?_) (a' := ?_) #[true,true,true,true,true,true,true,true,true,true,true,true] rfl rfl (any_of HT_.out (by kernel_rfl)) (fun _ _ _ h=>h) (Or.inl ⟨by rfl,?_⟩) ?_ ?_;rotate_left
  · intro w'
    go_simp
    with_reducible rfl
  rotate_left
  · simp only[Act.put,List.setIfInBounds_toArray,List.set_cons_zero,List.set_cons_succ,i64_w,i32_w]
    rfl
  refine done_ (done_of HT_.out (by kernel_rfl)) ?_;clear KO len18 hb10 hw10 hHeld
  go_wp2_with (first
    | (go_at_call 19
       have hI10:=(((HTO.out.is.below HB7.out).below (HB9.out)).below HB10.out)
       refine(Fire_calls hI10 9).mono ?_;rintro e w11 ⟨v11,out,N11,ps11,rfl,hR,hto,_,h11⟩;rcases h11 with ⟨h11,_⟩|⟨_,rfl,rfl⟩
       · exact absurd h11 idle7
       have HX:=Aside0.mk hR;rw[fired7] at hR;rw[left7] at hto;obtain⟨A11,c11,rfl⟩:=Kd.R_slice hR;have HR11:=Aside0.mk hR;have HT11:=Aside0.mk hto
       have hF11:=Kd.F_step (Kd.F_below (Kd.F_below (Kd.F_below HF6.out HB7.out) HB9.out) HB10.out) (fun k hk hlt=>hto.fr.block k hlt (fun h=>by
         rcases h with h|h
         · have:=h.2;have:=hk.1;omega
         · have:=h.1;have:=hk.2;omega))
       obtain⟨ad,rfl,x0,x1,x2,x3⟩:=at_T70 (Kd.F_now hF11) 0 (by decide) (by decide);have ea:ad.add ((0:Int).toNat*4)=ad:=add0 ad;rw[ea] at x0 x1 x2 x3
       have HTT:Aside0 (IsS (fun k=>w7.heap.size≤k∧k<w8.heap.size) N8 w11 q8 ⟨1,10,0,1,[p7]⟩):=⟨(HT9.out.below HB10.out).fr hto.fr (fun k hk h=>by
         rcases hk with hk|hk
         · have:=hk.2;have:=h.1;have:=HB5.out.size;have:=HTO.out.fr.size;have:=HB7.out.size;omega
         · have:=h.1;have:=hk.2;have:=HB7.out.size;omega)⟩
       have KT:=Len_st HTT.out;dsimp only at KT;clear hI10 hR hto HX hF11 ea)
    |(go_at_call 26;refine KT.mono ?_;clear KT;rintro e w12 ⟨rfl,rfl⟩)
    |(go_at_call 26;refine KS.mono ?_;clear KS;rintro e w12 ⟨rfl,rfl⟩)
    | (go_at_call 18
       obtain⟨k,hk⟩:=Th.records_ev [⟨1,9,7⟩] (by decide);have hn:=R_one39 w12 w12.heap.size (Nat.le_refl _) ⟨1,9,7⟩;refine(leathelp_Records.calls k A11 c11 [⟨1,9,7⟩] _ _ [⟨1,9,7⟩] true _ (Kd.C_alloc (Kd.R_reads' HR11.out).2.2 _) (Kd.R_reads' HR11.out).2.1 (Kd.R_reads' hn).2.2 (Kd.R_reads' hn).2.1 (hk k (Nat.le_refl _))).mono ?_;rintro e w14 ⟨rfl,hd⟩;have HD:=Aside0.mk hd.below;have KS:=Len_st ((HT11.out.is.below ((Below.refl w12.heap.size w12).alloc (Nat.le_refl _) (.cells #[.int .i64 1,.int .i64 9,.int .i64 7] 39))).below HD.out);dsimp only at KS;clear hk hn hd)
    |fail)
  go_ret;refine⟨rfl,?_⟩;have b1:=HB1.out;have s1:=b1.size;have b4:=b1.trans (HB4.out.mono b1.size);have b5:=b4.trans (HB5.out.mono b4.size);have s5:=b5.size;have b6:=b5.trans (HTO.out.fr.toBelow (B:=w.heap.size) b5.size (fun k _ h=>by have:=h.1;omega));have b7:=b6.trans (HB7.out.mono b6.size);have b9:=b7.trans (HB9.out.mono b7.size);have b10:=b9.trans (HB10.out.mono b9.size)
  have b12:=b10.trans (HT11.out.fr.toBelow (B:=w.heap.size) b10.size (fun k _ h=>by
    rcases h with h|h
    · have:=h.1;omega
    · have:=h.1;omega))
  have b13:=b12.alloc b12.size (.cells #[.int .i64 1,.int .i64 9,.int .i64 7] 39);exact b13.trans (HD.out.mono b13.size)
end Go.Proofs.Ytjegeghigfmkoaa.T
namespace Go.Proofs.Ytjegeghigfmkoaa.T
open Go.RowKit Go.Maps Go.Sort Go.Proofs Go.Proofs.Ytjegeghigfmkoaa Go.Proofs.Ytjegeghigfmkoaa.X Go.Proofs.YtjegeghigfmkoaaW.PrintWords Go.Proofs.YtjegeghigfmkoaaW.PrintLast Go.Proofs.YtjegeghigfmkoaaW.PrintMore
set_option linter.unusedVariables false
set_option linter.unusedSimpArgs false
set_option maxRecDepth 100000
variable {F:Nat→Prop} {N:Nat} {w w' :World} {q b1 b2:Nat} {tv:Value} {tm:List Int} {s:St}
theorem fit_any (kind size slide a:Int): ∃b:Bool,(b=true→Th.FitA kind size slide a)∧ ∀W,Calls Try.prog 10 #[aggW kind size slide,.int .i64 a] W fun e w'=>e= .returned (.bool b)∧Below W.heap.size W w' :=by
 obtain⟨b,hb,k,hk⟩:=Th.fit_sp kind size slide a;exact⟨b,hb,fun W=>leatlaw12_fit.calls k kind size slide a b W (hk k (Nat.le_refl _))⟩
theorem time_any (t:Int) (W:World):Calls Try.prog 14 #[.int .i64 t] W fun e w'=>e= .returned (.bool (decide (Th.TimeOk t)))∧Below W.heap.size W w' :=
 (leatlaw12_time.calls t _ W (Th.time_eq t)).mono fun e w' h=>⟨h.1,h.2.below⟩
def spansS (kind size slide t:Int):List S68:=if kind=0 then[⟨-9223372036854775808,2199023255553⟩] else Th.spansP kind size slide t
theorem back_bounds (size slide t:Int) (hs:1≤slide): ∀(n:Nat) (s:Int),s≤t→ ∀x ∈ Th.backL size slide t n s,x.f0≤t∧t<x.f0+size∧x.f1=x.f0+size
 |0,_,_,x,hx=>by cases hx
 | n+1,s,h,x,hx=>by
  rw[Th.backL] at hx;split at hx
  ·rename_i hc;rcases List.mem_cons.1 hx with rfl|hx
   ·exact⟨h,hc,rfl⟩
   ·exact back_bounds size slide t hs n (s-slide) (by omega) x hx
  ·cases hx
theorem sp_bounds {kind size slide t:Int} (hf:Th.Fit kind size slide): ∀x ∈ Th.spansP kind size slide t,x.f0≤t∧t<x.f0+size∧x.f1=x.f0+size:=by
 have h1:=hf.s1;unfold Th.spansP;intro x hx;split at hx
 ·rw[List.mem_singleton.1 hx];have:=Th.fl_bounds t size h1;exact⟨this.1,by show t<Th.fl t size+size;omega,rfl⟩
 ·split at hx
  ·rw[List.mem_singleton.1 hx];exact⟨Int.le_refl _,by show t<t+size;omega,rfl⟩
  ·have hk:kind=2:=by have:=hf.k1;have:=hf.k3;omega
   have hsl:=hf.sl hk;have:=Th.fl_bounds t slide hsl.1;exact back_bounds size slide t hsl.1 64 _ this.1 x (List.mem_reverse.1 hx)
theorem spansS_64 {kind size slide a t:Int} (hf:Th.FitA kind size slide a) (ht:Th.TimeOk t): ∀x ∈ spansS kind size slide t,(I64 x.f0∧I64 x.f1)∧x.f0<x.f1∧ -9223372036854775808<wrap64 (x.f1-1):=by
 intro x hx;unfold spansS at hx;split at hx
 ·rw[List.mem_singleton.1 hx];refine⟨⟨by unfold I64;decide,by unfold I64;decide⟩,by decide,by unfold wrap64;decide⟩
 ·rename_i hk;have hf:=hf.2.resolve_left (fun h=>hk h.1);have hb:=sp_bounds hf x hx;have h1:=hf.s1;have h2:=hf.s2;unfold Th.TimeOk at ht;unfold I64 wrap64;omega
theorem spansS_len (kind size slide t:Int):(spansS kind size slide t).length≤64:=by
 unfold spansS;split
 ·decide
 ·exact Th.spansP_len _ _ _ _
theorem spansS_is {kind size slide a t:Int} (hf:Th.FitA kind size slide a) (ht:Th.TimeOk t):SpS kind size slide t (spansS kind size slide t):=by
 unfold spansS;by_cases hk:kind=0
 ·rw[if_pos hk];exact Or.inl ⟨hk,rfl⟩
 ·rw[if_neg hk];obtain⟨k,h⟩:=Th.spans_ev (hf.2.resolve_left (fun h=>hk h.1)) ht;exact Or.inr ⟨hk,k,h k (Nat.le_refl _)⟩
inductive PutsAll (kind size slide a:Int) (ps0:List S70):List S39→List S70→Prop
 |nil:PutsAll kind size slide a ps0 [] ps0
 |snoc {rs:List S39} {r:S39} {ps1 ps2:List S70} (h:PutsAll kind size slide a ps0 rs ps1) (k:Puts kind a r.f0 r.f2 ps1 (spansS kind size slide r.f1) ps2):PutsAll kind size slide a ps0 (rs++[r]) ps2
structure Hs (B0:Nat) (w0:World) (F:Nat→Prop) (N:Nat) (w:World) (q:Nat) (kind size slide a:Int) (ps:List S70):Prop where
 is:IsS F N w q ⟨kind,size,slide,a,ps⟩
 bl:Below B0 w0 w
 bs:B0≤w.heap.size
 low: ∀k,F k→B0≤k
theorem Hs.below {B0:Nat} {w0:World} {kind size slide a:Int} {ps:List S70} (h:Hs B0 w0 F N w q kind size slide a ps) (hb:Below w.heap.size w w'):Hs B0 w0 F N w' q kind size slide a ps:=
 ⟨h.is.below hb,h.bl.trans (hb.mono h.bs),Nat.le_trans h.bs hb.size,h.low⟩
theorem Hs.to {B0:Nat} {w0:World} {kind size slide a:Int} {ps ps' :List S70} {N' :Nat} (h:Hs B0 w0 F N w q kind size slide a ps) (ht:To F w w' N' q ⟨kind,size,slide,a,ps'⟩):Hs B0 w0 (Fx F w w') N' w' q kind size slide a ps' :=
 ⟨ht.is,h.bl.trans (ht.fr.toBelow h.bs (fun k _ hk=>h.low k hk)),Nat.le_trans h.bs ht.fr.size,fun k hk=>by
  have:=h.bs;rcases hk with hk|hk
  ·exact h.low k hk
  ·omega⟩
theorem Hs.put {B0:Nat} {w0:World} {kind size slide a:Int} {ps ps0:List S70} {rs:List S39} (h:Hs B0 w0 F N w q kind size slide a ps) (hf:Th.FitA kind size slide a) (r:S39) (hr:I64 r.f0∧I64 r.f2) (ht:Th.TimeOk r.f1) (hp:PutsAll kind size slide a ps0 rs ps) (hN:N+ps.length+128≤1000000):
  Calls Try.prog 15 #[.pointer (some ⟨q,0,none⟩),aggR r] w fun e w'=>e= .returned (.tuple #[])∧Fr F w w'∧ ∃N' ps',Hs B0 w0 (Fx F w w') N' w' q kind size slide a ps'∧N'+ps'.length≤N+ps.length+128∧PutsAll kind size slide a ps0 (rs++[r]) ps' :=by
 have hl:=spansS_len kind size slide r.f1;refine(Put_calls h.is r hr (spansS kind size slide r.f1) (spansS_is hf ht) (fun x hx=>(spansS_64 hf ht x hx).1) hl hN).mono ?_;rintro e w' ⟨rfl,N',ps',hto,hpot,hput⟩;exact⟨rfl,hto.fr,N',ps',h.to hto,by have:N'+ps'.length≤N+ps.length+2*(spansS kind size slide r.f1).length:=hpot;omega,.snoc hp hput⟩
theorem New_hs (w:World) (kind size slide a:Int):Calls Try.prog 11 #[aggW kind size slide,.int .i64 a] w fun e w'=> ∃q,e= .returned (.pointer (some ⟨q,0,none⟩))∧Hs w.heap.size w (fun k=>w.heap.size≤k∧k<w'.heap.size) 0 w' q kind size slide a []∧Below w.heap.size w w' :=
 (New_calls w kind size slide a).mono fun e w' ⟨q,h1,h2,h3⟩=>⟨q,h1,⟨h2,h3,h3.size,fun k hk=>hk.1⟩,h3⟩
structure RecL (w0:World) (A:Option Addr) (l:List S39):Prop where
 c: ∀W,Below w0.heap.size w0 W→Kd.C k39 W A l.length l
 i64: ∀r ∈ l,I64 r.f0∧I64 r.f2
end Go.Proofs.Ytjegeghigfmkoaa.T
namespace Go.Proofs.Ytjegeghigfmkoaa.T
open Go.RowKit Go.Sort Go.Proofs.YtjegeghigfmkoaaW.PrintWords Go.Proofs.YtjegeghigfmkoaaW.PrintMore Go.Proofs.Ytjegeghigfmkoaa Go.Proofs.Ytjegeghigfmkoaa.So Go.Proofs.Ytjegeghigfmkoaa.X Go.Proofs.Ytjegeghigfmkoaa.Nf Go.Proofs.Ytjegeghigfmkoaa.Th
set_option linter.unusedVariables false
set_option linter.unusedSimpArgs false
theorem fitA_ok {kind size slide a:Int} (h:FitA kind size slide a):aggOk a=true:=by
 unfold aggOk;exact decide_eq_true (by have:=h.1;omega)
theorem putsAll_rs {kind size slide a:Int} (hf:FitA kind size slide a) {rs:List S39} {ps:List S70} (h:PutsAll kind size slide a [] rs ps) (hr: ∀r ∈ rs,TimeOk r.f1∧Go.Proofs.Ytjegeghigfmkoaa.I64 r.f2):
  RSk kind a (ones a (spansS kind size slide) rs) ps∧NK kind ps∧ ∀p ∈ ps,Prp p:=by
 induction h with
 |nil=>exact⟨.done (.refl _),List.Pairwise.nil,fun p hp=>by cases hp⟩
 | @snoc rs r ps1 ps2 h k ih=>
  obtain⟨i1,i2,i3⟩:=ih (fun x hx=>hr x (List.mem_append_left _ hx));have hr1:=hr r (List.mem_append_right _ (List.mem_singleton.2 rfl));obtain⟨j1,j2,j3⟩:=puts_rs (fitA_ok hf) hr1.2 k i2 i3 (fun s hs=>(spansS_64 hf hr1.1 s hs).2.1);refine⟨?_,j2,j3⟩;rw[ones_snoc];exact RS.trans (RS.app i1 _) j1
theorem putsAll_is {kind size slide a:Int} (hf:FitA kind size slide a) {rs:List S39} {ps:List S70} (h:PutsAll kind size slide a [] rs ps) (hr: ∀r ∈ rs,TimeOk r.f1∧Go.Proofs.Ytjegeghigfmkoaa.I64 r.f2):
  Is kind a (ones a (spansS kind size slide) rs) (sortP ps):=by
 obtain⟨h1,h2,_⟩:=putsAll_rs hf h hr;exact Is.sort (fitA_ok hf) h1 h2
theorem putsAll_order {kind size slide a:Int} (hf:FitA kind size slide a) {rs rs' :List S39} {ps ps' :List S70} (h:PutsAll kind size slide a [] rs ps) (h' :PutsAll kind size slide a [] rs' ps') (hp:rs.Perm rs') (hr: ∀r ∈ rs,TimeOk r.f1∧Go.Proofs.Ytjegeghigfmkoaa.I64 r.f2):
  sortP ps=sortP ps' :=
 (putsAll_is hf h hr).unique (fitA_ok hf) (putsAll_is hf h' (fun r hr'=>hr r (hp.mem_iff.2 hr'))) (ones_perm a _ hp)
theorem same_sym {x y:S70} (h:same x y=false):same y x=false:=by
 cases hs:same y x with
 |false=>rfl
 |true=>
  have h4:=(same_iff _ _).1 hs;have h5:same x y=true:=(same_iff _ _).2 ⟨h4.1.symm,h4.2.symm⟩;rw[h5] at h;cases h
theorem load_new {a:Int}: ∀(l acc:List S70),Apart l→(∀x ∈ l,∀y ∈ acc,same x y=false)→l.foldl (loadP a) acc=l.reverse++acc
 |[],acc,_,_=>rfl
 | x::l,acc,h,hno=>by
  have h2:=List.pairwise_cons.1 h;have hx:=hno x (List.mem_cons_self ..)
  have hh:hasP x acc=false:=by
   cases hh:hasP x acc with
   |false=>rfl
   |true=>
    obtain⟨y,hy,hs⟩:=List.any_eq_true.1 hh;rw[hx y hy] at hs;cases hs
  have e:loadP a acc x=x::acc:=by
   unfold loadP;rw[if_neg (by rw[hh];decide)];unfold layP;rw[out_none hx]
  rw[List.foldl_cons,e,load_new l (x::acc) h2.2 (fun z hz y hy=>by
   rcases List.mem_cons.1 hy with rfl|hy
   ·exact same_sym (h2.1 z hz)
   ·exact hno z (List.mem_cons_of_mem _ hz) y hy)]
  simp
theorem loadL_apart {a:Int} {l:List S70} (h:Apart l):loadL a l=l.reverse:=by
 have:=load_new (a:=a) l [] h (fun _ _ y hy=>by cases hy);rw[List.append_nil] at this;exact this
end Go.Proofs.Ytjegeghigfmkoaa.T
namespace Go.Proofs.Ytjegeghigfmkoaa.T
open Go.RowKit Go.Sort Go.Proofs.YtjegeghigfmkoaaW.PrintWords Go.Proofs.YtjegeghigfmkoaaW.PrintMore Go.Proofs.Ytjegeghigfmkoaa Go.Proofs.Ytjegeghigfmkoaa.So Go.Proofs.Ytjegeghigfmkoaa.X Go.Proofs.Ytjegeghigfmkoaa.Nf Go.Proofs.Ytjegeghigfmkoaa.Th
set_option linter.unusedVariables false
set_option linter.unusedSimpArgs false
theorem load_norm {kind a:Int} (ha:aggOk a=true) {l:List S70} (hN:NK kind l) (hP: ∀p ∈ l,Prp p):(loadL a (loadOf kind a l)).Perm l:=by
 have hl:(loadOf kind a l).Perm l:=by
  unfold loadOf;split
  ·rename_i hk;subst hk;have h1:=join_is ha l;have h2:Is 3 a l (sortP l):=Is.sort ha (.done (.refl _)) hN;rw[h1.unique ha h2 (.refl _)];exact sortP_perm l
  ·exact .refl _
 have hap:Apart (loadOf kind a l):=nk_apart (Normal.perm (mgK kind ha) hN hl.symm) (fun p hp=>hP p (hl.mem_iff.1 hp));rw[loadL_apart hap];exact(List.reverse_perm _).trans hl
theorem firedL_perm {kind size slide a:Int} (ha:aggOk a=true) {ps:List S70} (hN:NK kind ps) (hP: ∀p ∈ ps,Prp p) (m:Int):(firedL ⟨kind,size,slide,a,ps⟩ m).Perm (leftR m (sortP ps)):=by
 unfold firedL;refine load_norm ha (List.Pairwise.sublist List.filter_sublist (Normal.perm (mgK kind ha) hN (sortP_perm ps).symm)) (fun p hp=>hP p (leftR_mem hp))
theorem idle_out {s:St} {m:Int} (h: ∀p ∈ s.ps,m<lastP p):Th.outR m (sortP s.ps)=[]∧Th.leftR m (sortP s.ps)=sortP s.ps:=by
 have hd: ∀p ∈ sortP s.ps,Th.due m p=false:=fun p hp=>by
  have:=h p ((sortP_perm _).mem_iff.1 hp);unfold Th.due;exact decide_eq_false (by unfold lastP at this;omega)
 constructor
 ·unfold Th.outR;rw[List.filter_eq_nil_iff.2 (fun p hp=>by rw[hd p hp];decide)];rfl
 ·unfold Th.leftR;rw[List.filter_eq_self];intro p hp;rw[hd p hp];rfl
end Go.Proofs.Ytjegeghigfmkoaa.T
namespace Go.Proofs.Ytjegeghigfmkoaa.T
open Go.RowKit Go.Sort Go.Proofs.YtjegeghigfmkoaaW.PrintWords Go.Proofs.YtjegeghigfmkoaaW.PrintMore Go.Proofs.Ytjegeghigfmkoaa Go.Proofs.Ytjegeghigfmkoaa.So Go.Proofs.Ytjegeghigfmkoaa.X Go.Proofs.Ytjegeghigfmkoaa.Nf Go.Proofs.Ytjegeghigfmkoaa.Th
set_option linter.unusedVariables false
set_option linter.unusedSimpArgs false
structure Tmr (kind a last:Int) (ps ps2:List S70) (n al:Nat):Prop where
 nk:NK kind ps
 prp: ∀p ∈ ps,Prp p
 gt: ∀p ∈ ps,last<lastP p
 due: ∀p ∈ ps2,lastP p≤last∨p ∈ ps
 cnt:al+ps.length=ps2.length
 it:n+ps.length≤ps2.length
def Mid (p:S70):Prop:= -4611686018427387904≤p.f1.f0∧p.f1.f0<p.f1.f1∧p.f1.f1≤4611686018427387904
theorem mid_join {a:Int} (x y:S70) (hx:Mid x) (hy:Mid y):Mid (joinP a x y):=by
 unfold Mid joinP mn mx at*
 dsimp only;split<;>split<;>omega
theorem mid_all {kind size slide a:Int} (hf:FitA kind size slide a) (hk:kind≠0) {rs:List S39} {ps:List S70} (h:PutsAll kind size slide a [] rs ps) (hr: ∀r ∈ rs,TimeOk r.f1∧Go.Proofs.Ytjegeghigfmkoaa.I64 r.f2): ∀p ∈ ps,Mid p:=by
 refine rs_all mid_join (putsAll_rs hf h hr).1 (ones_all fun r hr' s hs=> ?_);have ht:=(hr r hr').1;have hF:=hf.2.resolve_left (fun h=>hk h.1);unfold spansS at hs;rw[if_neg hk] at hs;have hb:=sp_bounds hF s hs;have h1:=hF.s1;have h2:=hF.s2;unfold TimeOk at ht;unfold Mid one;dsimp only;omega
theorem puts_same {kind size slide a:Int} (hf:FitA kind size slide a) {rs:List S39} {ps ps2:List S70} (h:PutsAll kind size slide a [] rs ps) (h2:PutsAll kind size slide a [] rs ps2) (hr: ∀r ∈ rs,TimeOk r.f1∧Go.Proofs.Ytjegeghigfmkoaa.I64 r.f2):ps.Perm ps2:=by
 have:=putsAll_order hf h h2 (.refl _) hr;exact(sortP_perm ps).symm.trans (this▸sortP_perm ps2)
theorem Tmr.start {kind size slide a:Int} (hf:FitA kind size slide a) (hk:kind≠0) {rs:List S39} {ps ps2:List S70} (h:PutsAll kind size slide a [] rs ps) (h2:PutsAll kind size slide a [] rs ps2) (hr: ∀r ∈ rs,TimeOk r.f1∧Go.Proofs.Ytjegeghigfmkoaa.I64 r.f2):Tmr kind a (-9223372036854775808) ps ps2 0 0:=by
 have hp:=puts_same hf h h2 hr;obtain⟨_,r2,r3⟩:=putsAll_rs hf h hr;refine⟨r2,r3,fun p hp=> ?_,fun p hp2=>Or.inr (hp.mem_iff.2 hp2),by rw[hp.length_eq];omega,by rw[hp.length_eq];omega⟩;have hm:=mid_all hf hk h hr p hp;unfold Mid at hm;unfold lastP wrap64;omega
theorem fire_len (m:Int) (l:List S70):(outR m (sortP l)).length+(leftR m (sortP l)).length=l.length:=by
 unfold outR leftR;rw[List.length_map,←sortP_len l];generalize sortP l=x
 induction x with
 |nil=>rfl
 |cons p x ih=>
  cases hd:Th.due m p with
  |true=>rw[List.filter_cons_of_pos hd,List.filter_cons_of_neg (by rw[hd];decide),List.length_cons,List.length_cons];omega
  |false=>rw[List.filter_cons_of_neg (by rw[hd];decide),List.filter_cons_of_pos (by rw[hd];rfl),List.length_cons,List.length_cons];omega
theorem due_iff {m:Int} {p:S70}:Th.due m p=true↔lastP p≤m:=by unfold Th.due lastP;exact decide_eq_true_iff
theorem Tmr.step {kind size slide a last t:Int} {ps ps2:List S70} {n al:Nat} (ha:aggOk a=true) (h:Tmr kind a last ps ps2 n al) (he: ∃p ∈ ps,lastP p=t) (hm: ∀p ∈ ps,t≤lastP p):
  last<t∧0<(firedR ⟨kind,size,slide,a,ps⟩ t).length∧(∀r ∈ firedR ⟨kind,size,slide,a,ps⟩ t,r.f1=t)∧(firedL ⟨kind,size,slide,a,ps⟩ t).length<ps.length∧Tmr kind a t (firedL ⟨kind,size,slide,a,ps⟩ t) ps2 (n+1) (al+(firedR ⟨kind,size,slide,a,ps⟩ t).length):=by
 have hp:=firedL_perm (kind:=kind) (size:=size) (slide:=slide) ha h.nk h.prp t;have hl:=fire_len t ps;obtain⟨p0,hp0,hpt⟩:=he
 have hpos:0<(outR t (sortP ps)).length:=by
  unfold outR;rw[List.length_map];exact List.length_pos_of_mem (List.mem_filter.2 ⟨(sortP_perm ps).mem_iff.2 hp0,due_iff.2 (by omega)⟩)
 have hfl:=hp.length_eq
 have hmem: ∀p ∈ firedL ⟨kind,size,slide,a,ps⟩ t,p ∈ ps∧t<lastP p:=fun p hpp=>by
  have hpp:=hp.mem_iff.1 hpp;obtain⟨h1,h2⟩:=List.mem_filter.1 hpp;refine⟨(sortP_perm ps).mem_iff.1 h1,?_⟩
  have: ¬lastP p≤t:=fun hle=>by
   rw[due_iff.2 hle] at h2;cases h2
  omega
 refine⟨by have:=h.gt p0 hp0;omega,hpos,fun r hr=> ?_,by omega,⟨?_,fun p hpp=>h.prp p (hmem p hpp).1,fun p hpp=>(hmem p hpp).2,fun p hp2=> ?_,?_,?_⟩⟩
 ·obtain⟨p,hpf,rfl⟩:=List.mem_map.1 hr;obtain⟨h1,h2⟩:=List.mem_filter.1 hpf;have h3:=due_iff.1 h2;have h4:=hm p ((sortP_perm ps).mem_iff.1 h1);show lastP p=t;omega
 ·exact Normal.perm (mgK kind ha) (List.Pairwise.sublist List.filter_sublist (Normal.perm (mgK kind ha) h.nk (sortP_perm ps).symm)) hp.symm
 ·by_cases hle:lastP p≤t
  ·exact Or.inl hle
  ·rcases h.due p hp2 with h1|h1
   ·have:=h.gt p0 hp0;omega
   ·refine Or.inr (hp.mem_iff.2 (List.mem_filter.2 ⟨(sortP_perm ps).mem_iff.2 h1,?_⟩));cases hd:Th.due t p with
    |true=>exact absurd (due_iff.1 hd) hle
    |false=>rfl
 ·have:=h.cnt;show al+(outR t (sortP ps)).length+_=_;omega
 ·have:=h.it;omega
end Go.Proofs.Ytjegeghigfmkoaa.T
namespace Go.Proofs.Ytjegeghigfmkoaa.T
open Go.RowKit Go.Sort Go.Proofs.YtjegeghigfmkoaaW.PrintWords Go.Proofs.YtjegeghigfmkoaaW.PrintMore Go.Proofs.Ytjegeghigfmkoaa Go.Proofs.Ytjegeghigfmkoaa.So Go.Proofs.Ytjegeghigfmkoaa.X Go.Proofs.Ytjegeghigfmkoaa.Nf Go.Proofs.Ytjegeghigfmkoaa.Th
set_option linter.unusedVariables false
set_option linter.unusedSimpArgs false
structure Pi (kind a:Int) (ps L:List S70):Prop where
 perm:ps.Perm L
 nk:NK kind ps
 prp: ∀p ∈ ps,Prp p
theorem Pi.sort {kind a:Int} {ps L:List S70} (h:Pi kind a ps L):sortP ps=sortP L:=sortP_congr h.perm
theorem Pi.nkL {kind a:Int} {ps L:List S70} (ha:aggOk a=true) (h:Pi kind a ps L):NK kind L:=Normal.perm (mgK kind ha) h.nk h.perm
theorem Pi.prpL {kind a:Int} {ps L:List S70} (h:Pi kind a ps L): ∀p ∈ L,Prp p:=fun p hp=>h.prp p (h.perm.mem_iff.2 hp)
theorem Pi.put {kind a:Int} (ha:aggOk a=true) {key val:Int} (hv:Go.Proofs.Ytjegeghigfmkoaa.I64 val) {ps ps' L L' :List S70} {sps:List S68} (h:Pi kind a ps L) (hp:Puts kind a key val ps sps ps') (hs: ∀s ∈ sps,s.f0<s.f1) (h1:RSk kind a (L++sps.map (one a key val)) L') (h2:NK kind L'):Pi kind a ps' L' :=by
 obtain⟨i1,i2,i3⟩:=puts_rs ha hv hp h.nk h.prp hs;exact⟨Nf.unique (mgK kind ha) (i1.perm (h.perm.append_right _) (.refl _)) h1 i2 h2,i2,i3⟩
theorem puts_len2 {kind a key val:Int} (ha:aggOk a=true) (hv:Go.Proofs.Ytjegeghigfmkoaa.I64 val) {ps ps' :List S70} {sps:List S68} (hp:Puts kind a key val ps sps ps') (hN:NK kind ps) (hP: ∀p ∈ ps,Prp p) (hs: ∀s ∈ sps,s.f0<s.f1):ps'.length≤ps.length+sps.length:=by
 have:=rs_len (puts_rs ha hv hp hN hP hs).1;rw[List.length_append,List.length_map] at this;exact this
theorem ref_chain {kind a:Int} (ha:aggOk a=true) (size slide key t val:Int): ∀(sp:List S68) (L:List S70),(∀s ∈ sp,s.f0<s.f1)→L.length+sp.length<4398046510000→NK kind L→(∀x ∈ L,Proper x)→
  ∃Lf:Nat→List S70,Lf 0=L∧(∀i (hi:i<sp.length),∃k,leatref11_Into.f k kind size slide a (Lf i) key t val sp[i].f0 sp[i].f1=some (Lf (i+1)))∧RSk kind a (L++sp.map (one a key val)) (Lf sp.length)∧NK kind (Lf sp.length)
 |[],L,_,_,hN,_=>⟨fun _=>L,rfl,fun i hi=>by simp at hi,.done (by simp),hN⟩
 | s::sp,L,hs,hl,hN,hP=>by
  obtain⟨r,hio,k,hk⟩:=into_sp (kind:=kind) ha size slide key t val s (hs s (List.mem_cons_self ..)) L (by simp at hl;omega) hP;have hrl:=rs_len hio.rs;obtain⟨Lf,h0,h1,h2,h3⟩:=ref_chain ha size slide key t val sp r (fun x hx=>hs x (List.mem_cons_of_mem _ hx)) (by simp at hl hrl;omega) (hio.nk hN) hio.pr;refine⟨fun i=>match i with|0=>L|i+1=>Lf i,rfl,fun i hi=> ?_,?_,h3⟩
  ·cases i with
   |zero=>exact⟨k,by have:=hk k (Nat.le_refl _);rw[←h0] at this;exact this⟩
   |succ i=>exact h1 i (by simpa using hi)
  ·rw[List.map_cons];have e:(L++one a key val s::sp.map (one a key val)).Perm ((one a key val s::L)++sp.map (one a key val)):=List.perm_middle;exact RS.trans ((RS.app hio.rs _).perm e.symm (.refl _)) h2
theorem fires_ev (kind m:Int) (L:List S70) (hn:L.length<4398046511000):Ev (fun k=>leatref13_Fires.f k (kind==0) L m) (if kind=0∧m≠9223372036854775807 then([],L) else(outR m (sortP L),leftR m (sortP L))):=by
 have h:=rfire_ev m L hn;by_cases hk:kind=0
 ·by_cases hm:m=9223372036854775807
  ·rw[if_neg (fun h=>h.2 hm)];refine Ev.congr (fun k=> ?_) (Ev.bind h (Ev.now _));rw[leatref13_Fires.f,if_pos (by simpa using hk),if_pos hm]
  ·rw[if_pos ⟨hk,hm⟩];refine Ev.congr (fun k=> ?_) (Ev.now _);rw[leatref13_Fires.f,if_pos (by simpa using hk),if_neg hm]
 ·rw[if_neg (fun h=>hk h.1)];refine Ev.congr (fun k=> ?_) (Ev.bind h (Ev.now _));rw[leatref13_Fires.f,if_neg (by simpa using hk)]
theorem Pi.fire {kind size slide a m:Int} {ps ps' L left:List S70} {out out' :List S39} (ha:aggOk a=true) (h:Pi kind a ps L) (hr:(out,left)=(if kind=0∧m≠9223372036854775807 then([],L) else(outR m (sortP L),leftR m (sortP L))))
  (hf:Idle ⟨kind,size,slide,a,ps⟩ m∧out'=[]∧ps'=ps∨ ¬Idle ⟨kind,size,slide,a,ps⟩ m∧out'=firedR ⟨kind,size,slide,a,ps⟩ m∧ps'=firedL ⟨kind,size,slide,a,ps⟩ m):out'=out∧Pi kind a ps' left∧ps'.length≤ps.length:=by
 have hsort:=h.sort;by_cases hc:kind=0∧m≠9223372036854775807
 ·rw[if_pos hc] at hr;injection hr with h1 h2
  subst h1;subst h2;rcases hf with ⟨_,rfl,rfl⟩|⟨hi,_⟩
  ·exact⟨rfl,h,Nat.le_refl _⟩
  ·exact absurd (Or.inl hc) hi
 ·rw[if_neg hc,←hsort] at hr;injection hr with h1 h2
  subst h1;subst h2;rcases hf with ⟨hi,rfl,rfl⟩|⟨hi,rfl,rfl⟩
  ·rcases hi with hi|hi
   ·exact absurd hi hc
   ·obtain⟨e1,e2⟩:=idle_out (s:=⟨kind,size,slide,a,ps'⟩) hi;have e1:outR m (sortP ps')=[]:=e1;have e2:leftR m (sortP ps')=sortP ps' :=e2;rw[e1,e2];exact⟨rfl,⟨(sortP_perm ps').symm,h.nk,h.prp⟩,Nat.le_refl _⟩
  ·have hp:=firedL_perm (kind:=kind) (size:=size) (slide:=slide) ha h.nk h.prp m;refine⟨rfl,⟨hp,?_,fun p hpp=> ?_⟩,?_⟩
   ·exact Normal.perm (mgK kind ha) (List.Pairwise.sublist List.filter_sublist (Normal.perm (mgK kind ha) h.nk (sortP_perm ps).symm)) hp.symm
   ·exact h.prp p (leftR_mem (hp.mem_iff.1 hpp))
   ·rw[hp.length_eq];exact leftR_len m ps
theorem Pi.same {kind a:Int} {ps ps' L:List S70} (ha:aggOk a=true) (h:Pi kind a ps L) (hp:ps'.Perm ps):Pi kind a ps' L:=
 ⟨hp.trans h.perm,Normal.perm (mgK kind ha) h.nk hp.symm,fun p hpp=>h.prp p (hp.mem_iff.1 hpp)⟩
theorem Pi.left {kind a:Int} {ps L L' :List S70} (h:Pi kind a ps L) (hp:L.Perm L'):Pi kind a ps L' :=⟨h.perm.trans hp,h.nk,h.prp⟩
theorem load_sort {kind a:Int} (ha:aggOk a=true) {ps:List S70} (hN:NK kind ps) (hP: ∀p ∈ ps,Prp p):(loadL a (loadOf kind a (sortP ps))).Perm ps:=
 (load_norm ha (Normal.perm (mgK kind ha) hN (sortP_perm ps).symm) (fun p hp=>hP p ((sortP_perm ps).mem_iff.1 hp))).trans (sortP_perm ps)
theorem read_B {ps:List S70} (h: ∀p ∈ ps,P64 p):readB (bytesB ps)=ps:=by
 unfold readB;rw[bytesB_len]
 have e:(bytesB ps).drop 4=panesB ps:=by
  unfold bytesB;rw[List.drop_append,numB_len,List.drop_eq_nil_of_le (by rw[numB_len];omega)];rfl
 rw[e,show(4+32*ps.length-4)/ 32=ps.length from by omega];exact parse_B ps h
theorem open_own {kind a:Int} (ha:aggOk a=true) {ps:List S70} (hN:NK kind ps) (hP: ∀p ∈ ps,Prp p) (h64: ∀p ∈ ps,P64 p):OpenOk kind a (bytesB (sortP ps))∧(openL kind a (bytesB (sortP ps))).Perm ps:=by
 have hr:readB (bytesB (sortP ps))=sortP ps:=read_B (fun p hp=>h64 p ((sortP_perm ps).mem_iff.1 hp))
 have ho:(openL kind a (bytesB (sortP ps))).Perm ps:=by
  unfold openL;rw[hr];exact load_sort ha hN hP
 refine⟨⟨⟨by rw[bytesB_len];omega,by rw[bytesB_len];omega⟩,?_⟩,ho⟩;rw[sortP_congr ho]
def leastT (l:List S70):Int:=l.foldl (fun m p=>mn m (lastP p)) 9223372036854775807
theorem mn_le (x y:Int):mn x y≤x∧mn x y≤y∧(mn x y=x∨mn x y=y):=by unfold mn;split<;>omega
theorem least_fold: ∀(l:List S70) (m:Int),(l.foldl (fun m p=>mn m (lastP p)) m≤m)∧(∀p ∈ l,l.foldl (fun m p=>mn m (lastP p)) m≤lastP p)∧(l.foldl (fun m p=>mn m (lastP p)) m=m∨ ∃p ∈ l,l.foldl (fun m p=>mn m (lastP p)) m=lastP p)
 |[],m=>by
  refine⟨Int.le_refl _,?_,Or.inl rfl⟩;intro p hp;cases hp
 | x::l,m=>by
  obtain⟨h1,h2,h3⟩:=least_fold l (mn m (lastP x));obtain⟨g1,g2,g3⟩:=mn_le m (lastP x);rw[List.foldl_cons];refine⟨Int.le_trans h1 g1,fun p hp=> ?_,?_⟩
  ·rcases List.mem_cons.1 hp with rfl|hp
   ·exact Int.le_trans h1 g2
   ·exact h2 p hp
  ·rcases h3 with h3|⟨p,hp,h3⟩
   ·rcases g3 with g3|g3
    ·exact Or.inl (h3.trans g3)
    ·exact Or.inr ⟨x,List.mem_cons_self ..,h3.trans g3⟩
   ·exact Or.inr ⟨p,List.mem_cons_of_mem _ hp,h3⟩
theorem least_snoc (l:List S70) (p:S70):leastT (l++[p])=mn (leastT l) (lastP p):=by unfold leastT;rw[List.foldl_append];rfl
theorem least_is {ps:List S70} {t:Int} (ht:t≤9223372036854775807) (he: ∃p ∈ ps,lastP p=t) (hm: ∀p ∈ ps,t≤lastP p):leastT (sortP ps)=t:=by
 obtain⟨h1,h2,h3⟩:=least_fold (sortP ps) 9223372036854775807;obtain⟨p,hp,hpt⟩:=he;have hle:=h2 p ((sortP_perm ps).mem_iff.2 hp);rcases h3 with h3|⟨x,hx,h3⟩
 ·unfold leastT;omega
 ·have:=hm x ((sortP_perm ps).mem_iff.1 hx);unfold leastT;omega
end Go.Proofs.Ytjegeghigfmkoaa.T
namespace Go.Proofs.Ytjegeghigfmkoaa.T
open Go.RowKit Go.Maps Go.Sort Go.Proofs Go.Proofs.Ytjegeghigfmkoaa Go.Proofs.Ytjegeghigfmkoaa.X Go.Proofs.YtjegeghigfmkoaaW.PrintWords Go.Proofs.YtjegeghigfmkoaaW.PrintLast Go.Proofs.YtjegeghigfmkoaaW.PrintMore
set_option linter.unusedVariables false
set_option linter.unusedSimpArgs false
set_option maxRecDepth 100000
variable {F:Nat→Prop} {N:Nat} {w w' :World} {q b1 b2:Nat} {tv:Value} {tm:List Int} {s:St}
theorem bytesEq_l0 (l:List Int) (hn:l.length<4611686018427387904): ∀(d i:Nat),l.length=i+d→Ev (fun k=>leathelp_Bytes.l0 k l l (i:Int)) true
 |0,i,h=>by
  refine Ev.step (f:=fun _=>some true) (fun k=> ?_) (Ev.now _);simp only[leathelp_Bytes.l0];rw[if_neg (by omega)]
 |d+1,i,h=>by
  refine Ev.step (fun k=> ?_) (bytesEq_l0 l hn d (i+1) (by omega));simp only[leathelp_Bytes.l0];rw[if_pos (by omega),if_pos (by omega),if_pos (by omega),if_pos trivial,Th.step_i (show i<l.length by omega) hn]
theorem bytesEq_ev (l:List Int) (hn:l.length<4611686018427387904):Ev (fun k=>leathelp_Bytes.f k l l) true:=
 Ev.congr (fun k=>by rw[leathelp_Bytes.f,if_pos rfl];rfl) (bytesEq_l0 l hn l.length 0 (by omega))
theorem bytesEq_any {W:World} {A0 A1:Option Addr} {c0 c1:Nat} {l:List Int} (h0:Kd.C (Kd.int .u8) W A0 l.length l) (hc0:l.length≤c0) (h1:Kd.C (Kd.int .u8) W A1 l.length l) (hc1:l.length≤c1) (hl:l.length≤100000000):
  Calls Try.prog 27 #[.slice A0 l.length c0,.slice A1 l.length c1] W fun e w'=>e= .returned (.bool true)∧Below W.heap.size W w' :=by
 obtain⟨k,hk⟩:=bytesEq_ev l (by omega);exact(leathelp_Bytes.calls k A0 c0 l A1 c1 l true W h0 hc0 h1 hc1 (hk k (Nat.le_refl _))).mono fun e w' h=>⟨h.1,h.2.below⟩
structure L2 (w w9:World) (kind size slide:Int) (g7:Nat) (cx:List Int) (wr:World):Prop where
 bl:Below w.heap.size w wr
 b9:Below w9.heap.size w9 wr
 hw:wr.heap[w.heap.size]? =some (.cells #[.int .i64 kind,.int .i64 size,.int .i64 slide] 23 (0,0))
theorem L2.below {w9 wr w' :World} {kind size slide:Int} {g7:Nat} {cx:List Int} (h:L2 w w9 kind size slide g7 cx wr) (hb:Below wr.heap.size wr w'):L2 w w9 kind size slide g7 cx w' :=
 ⟨h.bl.trans (hb.mono h.bl.size),h.b9.trans (hb.mono h.b9.size),blk_below h.hw hb⟩
structure Lr (w1:World) (kind size slide a:Int) (l:List S39) (i:Nat) (q:Nat) (wr:World) (F1:Nat→Prop) (N1:Nat) (ps:List S70):Prop where
 hs:Hs w1.heap.size w1 F1 N1 wr q kind size slide a ps
 puts:PutsAll kind size slide a [] (l.take i) ps
 pot:N1+ps.length≤128*i
end Go.Proofs.Ytjegeghigfmkoaa.T
namespace Go.Proofs.Ytjegeghigfmkoaa.T
open Go.RowKit Go.Maps Go.Sort Go.Proofs Go.Proofs.Ytjegeghigfmkoaa Go.Proofs.Ytjegeghigfmkoaa.X Go.Proofs.YtjegeghigfmkoaaW.PrintWords Go.Proofs.YtjegeghigfmkoaaW.PrintLast Go.Proofs.YtjegeghigfmkoaaW.PrintMore
set_option linter.unusedVariables false
set_option linter.unusedSimpArgs false
set_option maxRecDepth 100000
variable {F F1 F2:Nat→Prop} {N N1 N2 B0:Nat} {w w0 w' :World} {q q1 q2:Nat} {s:St} {kind size slide a:Int} {ps ps1 ps2 ps0:List S70}
structure H2 (B0:Nat) (w0:World) (F1:Nat→Prop) (N1:Nat) (F2:Nat→Prop) (N2:Nat) (w:World) (q1 q2:Nat) (kind size slide a:Int) (ps1 ps2:List S70):Prop where
 s:Hs B0 w0 F1 N1 w q1 kind size slide a ps1
 t:Hs B0 w0 F2 N2 w q2 kind size slide a ps2
 ap: ∀k,F1 k→ ¬F2 k
theorem H2.symm (h:H2 B0 w0 F1 N1 F2 N2 w q1 q2 kind size slide a ps1 ps2):H2 B0 w0 F2 N2 F1 N1 w q2 q1 kind size slide a ps2 ps1:=⟨h.t,h.s,fun k h2 h1=>h.ap k h1 h2⟩
theorem H2.below (h:H2 B0 w0 F1 N1 F2 N2 w q1 q2 kind size slide a ps1 ps2) (hb:Below w.heap.size w w'):H2 B0 w0 F1 N1 F2 N2 w' q1 q2 kind size slide a ps1 ps2:=⟨h.s.below hb,h.t.below hb,h.ap⟩
theorem H2.to {ps' :List S70} {N' :Nat} (h:H2 B0 w0 F1 N1 F2 N2 w q1 q2 kind size slide a ps1 ps2) (ht:To F1 w w' N' q1 ⟨kind,size,slide,a,ps'⟩):H2 B0 w0 (Fx F1 w w') N' F2 N2 w' q1 q2 kind size slide a ps' ps2:=by
 have h1:=h.s.to ht
 exact⟨h1,⟨h.t.is.fr ht.fr h.ap,h1.bl,h1.bs,h.t.low⟩,fun k hk=>by
  rcases hk with hk|hk
  ·exact h.ap k hk
  ·intro h2;have:=h.t.is.bound k h2;omega⟩
theorem H2.fr {M:Nat→Prop} (h:H2 B0 w0 F1 N1 F2 N2 w q1 q2 kind size slide a ps1 ps2) (hf:Fr M w w') (hM: ∀k,M k→ ¬F1 k∧ ¬F2 k∧B0≤k):H2 B0 w0 F1 N1 F2 N2 w' q1 q2 kind size slide a ps1 ps2:=by
 have hb:Below B0 w0 w' :=h.s.bl.trans (hf.toBelow h.s.bs (fun k _ hk=>(hM k hk).2.2));have hs:B0≤w'.heap.size:=Nat.le_trans h.s.bs hf.size;exact⟨⟨h.s.is.fr hf (fun k hk=>(hM k hk).1),hb,hs,h.s.low⟩,⟨h.t.is.fr hf (fun k hk=>(hM k hk).2.1),hb,hs,h.t.low⟩,h.ap⟩
theorem H2.new (h:Hs B0 w0 F1 N1 w q1 kind size slide a ps1) (k:Hs w.heap.size w (fun k=>w.heap.size≤k∧k<w'.heap.size) 0 w' q2 kind size slide a []) (hb:Below w.heap.size w w'):H2 B0 w0 F1 N1 (fun k=>w.heap.size≤k∧k<w'.heap.size) 0 w' q1 q2 kind size slide a ps1 []:=by
 have h1:=h.below hb
 exact⟨h1,⟨k.is,h1.bl,h1.bs,fun k hk=>Nat.le_trans h.bs hk.1⟩,fun k hk h2=>by
  have:=h.is.bound k hk;omega⟩
def SpA (kind size slide t:Int) (sp:List S68):Prop:=kind=0∧sp=[⟨-9223372036854775808,2199023255553⟩]∨kind≠0∧Ev (fun k=>window_Spans.f k kind size slide t) sp
theorem SpA.ok {t:Int} {sp:List S68} (hf:Th.FitA kind size slide a) (ht:Th.TimeOk t) (h:SpA kind size slide t sp):sp=spansS kind size slide t:=by
 unfold spansS;rcases h with ⟨hk,rfl⟩|⟨hk,h⟩
 ·rw[if_pos hk]
 ·rw[if_neg hk];exact Th.ev_unique h (Th.spans_ev (hf.2.resolve_left (fun h=>hk h.1)) ht)
inductive PutsX (kind size slide a:Int) (ps0:List S70):List S39→List S70→Prop
 |nil:PutsX kind size slide a ps0 [] ps0
 |snoc {rs:List S39} {r:S39} {ps1 ps2:List S70} {sp:List S68} (h:PutsX kind size slide a ps0 rs ps1) (hs:SpA kind size slide r.f1 sp) (k:Puts kind a r.f0 r.f2 ps1 sp ps2):PutsX kind size slide a ps0 (rs++[r]) ps2
theorem PutsX.ok (hf:Th.FitA kind size slide a) {rs:List S39} (h:PutsX kind size slide a ps0 rs ps) (ht: ∀r ∈ rs,Th.TimeOk r.f1):PutsAll kind size slide a ps0 rs ps:=by
 induction h with
 |nil=>exact .nil
 | @snoc rs r ps1 ps2 sp h hs k ih=>
  refine .snoc (ih (fun x hx=>ht x (List.mem_append_left _ hx))) ?_;rw[←hs.ok hf (ht r (List.mem_append_right _ (List.mem_singleton.2 rfl)))];exact k
def flatR (rs:List S39):List Value:=rs.flatMap fun r=>[.int .i64 r.f0,.int .i64 r.f1,.int .i64 r.f2]
theorem flatR_len (rs:List S39):(flatR rs).length=rs.length*3:=by
 induction rs with
 |nil=>rfl
 |cons p r ih=>unfold flatR at ih ⊢;rw[List.flatMap_cons,List.length_append,ih,List.length_cons];simp;omega
theorem flatR_get: ∀(l:List S39) (j c:Nat) (h:j<l.length),c<3→(flatR l)[j*3+c]? =([.int .i64 l[j].f0,.int .i64 l[j].f1,.int .i64 l[j].f2]:List Value)[c]?
 |x::l,0,c,h,hc=>by
  unfold flatR;rw[List.flatMap_cons,Nat.zero_mul,Nat.zero_add,List.getElem?_append_left (by simpa using hc)];rfl
 |x::l,j+1,c,h,hc=>by
  have ih:=flatR_get l j c (by simpa using h) hc;unfold flatR at ih ⊢;rw[List.flatMap_cons,List.getElem?_append_right (by simp;omega)];have e:(j+1)*3+c- ([.int .i64 x.f0,.int .i64 x.f1,.int .i64 x.f2]:List Value).length=j*3+c:=by simp;omega
  rw[e,ih];rfl
theorem app39m {w:World} {base base' :Nat} {ok:Nat→Prop} {v:Value} {ps ms:List S39} {A:Option Addr} {c:Nat} (ho:w.ownsRow base 39 3 v ps.length (flatR ps)) (hb:base≤w.heap.size) (hm:Kd.R k39 39 w base' ok (.slice A ms.length c) ms) (hn:ps.length+ms.length≤2000000) (ty:TypeId):
  ∃v' w',(Builtin.append_ #[47,47] ty #[v,.slice A ms.length c]).run Try.prog w= .ok v' w'∧w'.ownsRow base 39 3 v' (ps++ms).length (flatR (ps++ms))∧w.grownBy w' v.ownBlock∧(v'.ownBlock=v.ownBlock∨v'.ownBlock=some w.heap.size):=by
 obtain⟨i0,hi,hz0,hz1,hz2⟩:=info_parts info39;have hfl:flatR (ps++ms)=flatR ps++flatR ms:=List.flatMap_append;have hC:=(Kd.R_reads' hm).2.2;obtain⟨_,inner,hown,hrp⟩:=hm;rcases hown.2 with ⟨hv,hin⟩|⟨g,cap,cur,hv,_⟩
 ·injection hv with e1 e2 e3
  subst e1;subst e3;have hms:ms=[]:=List.eq_nil_of_length_eq_zero e2;subst hms;exact⟨v,w,run_append_owned_none w base 47 ty 39 i0 3 Try.underlying47 hi v ps.length (flatR ps) ho,by rw[List.append_nil];exact ho,⟨rfl,rfl,rfl,Nat.le_refl _,fun _ _ _=>rfl⟩,Or.inl rfl⟩
 ·injection hv with e1 e2 e3
  subst e1;have hl:(flatR ms).length=ms.length*3:=flatR_len ms
  have hcell: ∀j u,(flatR ms)[j]? =some u→w.cell? ((⟨g,0,none⟩:Addr).add j)=some u:=by
   intro j u hu;have hj:j<(flatR ms).length:=(List.getElem?_eq_some_iff.1 hu).1;rw[hl] at hj;obtain⟨t,ht⟩: ∃t,j / 3=t:=⟨_,rfl⟩
   obtain⟨c4,hc4⟩: ∃c4,j % 3=c4:=⟨_,rfl⟩
   have hq:t<ms.length:=by omega
   have hjt:j=t*3+c4:=by omega
   have hc:c4<3:=by omega
   have e4:(flatR ms)[t*3+c4]? =_:=flatR_get ms t c4 hq hc;rw[←hjt,hu] at e4;obtain⟨ad,cs,e,_,hK,hc0⟩:=Kd.C_get hC z39 (t:Int) (by omega) (by omega);cases e;have hgd:ms.getD ((t:Int)).toNat z39=ms[t]:=by rw[Int.toNat_natCast];simp[List.getD,hq]
   rw[hgd] at hK;obtain rfl:=k39_open hK;have h:=hc0 c4 u e4.symm;rw[Int.toNat_natCast] at h;rw[hjt];exact h
  obtain⟨v',w',g1,g2,g3,_,g5⟩:=run_append_own_at (P:=Try.prog) w base 47 ty 39 i0 _ 3 _ Try.underlying47 hi hz0 hz1 hz2 rfl (by decide) v ps.length (flatR ps) ho ⟨g,0,none⟩ ms.length c (flatR ms) hl hcell (by
   intro u hu;obtain⟨x,_,hx⟩:=List.mem_flatMap.1 hu;simp only[List.mem_cons,List.not_mem_nil,or_false] at hx;rcases hx with rfl|rfl|rfl<;>rfl) (by unfold maxLen;omega) (by omega) hb
  exact⟨v',w',g1,by rw[List.length_append,hfl];exact g2,g3,g5⟩
structure Lu (B0:Nat) (w0:World) (kind size slide a:Int) (al:List S39) (q1 q2:Nat) (w:World) (v:Value) (F1:Nat→Prop) (N1:Nat) (F2:Nat→Prop) (N2:Nat) (ps1 ps2:List S70):Prop where
 h2:H2 B0 w0 F1 N1 F2 N2 w q1 q2 kind size slide a ps1 ps2
 row:w.ownsRow B0 39 3 v al.length (flatR al)
 free: ∀g,v.ownBlock=some g→ ¬F1 g∧ ¬F2 g
theorem Lu.to {al:List S39} {v:Value} {ps' :List S70} {N' :Nat} (h:Lu B0 w0 kind size slide a al q1 q2 w v F1 N1 F2 N2 ps1 ps2) (ht:To F1 w w' N' q1 ⟨kind,size,slide,a,ps'⟩):Lu B0 w0 kind size slide a al q1 q2 w' v (Fx F1 w w') N' F2 N2 ps' ps2:=
 ⟨h.h2.to ht,own_fr h.row ht.fr (fun g hg=>(h.free g hg).1),fun g hg=>⟨fun hf=>by
  rcases hf with hf|hf
  ·exact(h.free g hg).1 hf
  ·have:=(h.row.lt g hg).2;omega,(h.free g hg).2⟩⟩
theorem Lu.below {al:List S39} {v:Value} (h:Lu B0 w0 kind size slide a al q1 q2 w v F1 N1 F2 N2 ps1 ps2) (hb:Below w.heap.size w w'):Lu B0 w0 kind size slide a al q1 q2 w' v F1 N1 F2 N2 ps1 ps2:=
 ⟨h.h2.below hb,pw_own_below h.row hb,h.free⟩
theorem Lu.app {al out:List S39} {v:Value} {base' :Nat} {ok:Nat→Prop} {A:Option Addr} {c:Nat} (h:Lu B0 w0 kind size slide a al q1 q2 w v F1 N1 F2 N2 ps1 ps2) (hR:Kd.R k39 39 w base' ok (.slice A out.length c) out) (hn:al.length+out.length≤2000000) (ty:TypeId):
  ∃v' w',(Builtin.append_ #[47,47] ty #[v,.slice A out.length c]).run Try.prog w= .ok v' w'∧Lu B0 w0 kind size slide a (al++out) q1 q2 w' v' F1 N1 F2 N2 ps1 ps2:=by
 obtain⟨v',w',h1,h2,h3,h4⟩:=app39m h.row h.h2.s.bs hR hn ty;refine⟨v',w',h1,⟨h.h2.fr (M:=fun k=>some k=v.ownBlock) (Fr.of_grown h3 (fun j hj=>hj.symm)) (fun k hk=>⟨(h.free k hk.symm).1,(h.free k hk.symm).2,(h.row.lt k hk.symm).1⟩),h2,fun g hg=> ?_⟩⟩;rcases h4 with h4|h4
 ·exact h.free g (h4▸hg)
 ·have e:g=w.heap.size:=by rw[h4] at hg;exact(Option.some.inj hg).symm
  subst e;exact⟨fun hf=>by have:=h.h2.s.is.bound _ hf;omega,fun hf=>by have:=h.h2.t.is.bound _ hf;omega⟩
end Go.Proofs.Ytjegeghigfmkoaa.T
namespace Go.Proofs.Ytjegeghigfmkoaa.T
open Go.RowKit Go.Maps Go.Sort Go.Proofs Go.Proofs.Ytjegeghigfmkoaa Go.Proofs.Ytjegeghigfmkoaa.X Go.Proofs.YtjegeghigfmkoaaW.PrintWords Go.Proofs.YtjegeghigfmkoaaW.PrintLast Go.Proofs.YtjegeghigfmkoaaW.PrintMore
set_option linter.unusedVariables false
set_option linter.unusedSimpArgs false
set_option maxRecDepth 100000
variable {F G:Nat→Prop} {N:Nat} {w w0 w' :World} {q g:Nat} {kind size slide a:Int} {ps L:List S70} {v1 v5 vL:Value} {mark:Int}
def ro (kind size slide a mark:Int) (L:List S70):Ro:=⟨if kind=0 then 6 else 7,a,kind,size,slide,mark,0,L⟩
structure Pw (w0:World) (kind size slide a:Int) (F:Nat→Prop) (N:Nat) (G:Nat→Prop) (w:World) (q g:Nat) (v1 v5 vL:Value) (ps L:List S70) (mark:Int):Prop where
 hs:Hs w0.heap.size w0 F N w q kind size slide a ps
 io:IsO w0 G w g (ro kind size slide a mark L) v1 v5 vL 0 0 0
 ap: ∀k,F k→ ¬G k
theorem Pw.below (h:Pw w0 kind size slide a F N G w q g v1 v5 vL ps L mark) (hb:Below w.heap.size w w'):Pw w0 kind size slide a F N G w' q g v1 v5 vL ps L mark:=⟨h.hs.below hb,h.io.below hb,h.ap⟩
theorem Pw.toS {ps' :List S70} {N' :Nat} (h:Pw w0 kind size slide a F N G w q g v1 v5 vL ps L mark) (ht:To F w w' N' q ⟨kind,size,slide,a,ps'⟩):Pw w0 kind size slide a (Fx F w w') N' G w' q g v1 v5 vL ps' L mark:=
 ⟨h.hs.to ht,h.io.fr ht.fr (fun k hk=>⟨h.ap k hk,h.hs.low k hk⟩),fun k hk hg=>by
  rcases hk with hk|hk
  ·exact h.ap k hk hg
  ·have:=(h.io.bound k hg).2;omega⟩
theorem Pw.toO {L' :List S70} {vL' :Value} {mark' :Int} (h:Pw w0 kind size slide a F N G w q g v1 v5 vL ps L mark) (hi:IsO w0 (Fx G w w') w' g (ro kind size slide a mark' L') v1 v5 vL' 0 0 0) (hf:Fr G w w'):Pw w0 kind size slide a F N (Fx G w w') w' q g v1 v5 vL' ps L' mark' :=
 ⟨⟨h.hs.is.fr hf (fun k hg hk=>h.ap k hk hg),hi.bl,hi.bl.size,h.hs.low⟩,hi,fun k hk hg=>by
  rcases hg with hg|hg
  ·exact h.ap k hk hg
  ·have:=h.hs.is.bound k hk;omega⟩
theorem Pw.mark_ (h:Pw w0 kind size slide a F N G w q g v1 v5 vL ps L mark) (m:Int):Pw w0 kind size slide a F N G (w.setCell ⟨g,11,none⟩ (.int .i64 m)) q g v1 v5 vL ps L m:=by
 have hsz:(w.setCell ⟨g,11,none⟩ (.int .i64 m)).heap.size=w.heap.size:=by simp[World.setCell]
 have hf:Fr (fun k=>k=g) w (w.setCell ⟨g,11,none⟩ (.int .i64 m)):=Fr.setCell (M:=fun k=>k=g) (Fr.refl _ w) (p:=⟨g,11,none⟩) rfl _;have hb:Below w0.heap.size w0 (w.setCell ⟨g,11,none⟩ (.int .i64 m)):=h.hs.bl.trans (hf.toBelow h.hs.bs (fun k _ hk=>by subst hk;exact h.io.gb));refine⟨⟨h.hs.is.fr hf (fun k hk=>by subst hk;exact fun hF=>h.ap _ hF h.io.gG),hb,by rw[hsz];exact h.hs.bs,h.hs.low⟩,⟨blk_set h.io.at_ 11 _,?_,hb,h.io.gG,h.io.gb,fun k hk=>by rw[hsz];exact h.io.bound k hk⟩,h.ap⟩;exact Kd.R_far (p:=⟨g,11,none⟩) h.io.row (fun k hk=>hk.2) _
theorem Pw.store {L' :List S70} {v' :Value} {w2:World} (h:Pw w0 kind size slide a F N G w q g v1 v5 vL ps L mark) (hf:Fr (fun k=>G k∧k≠g) w w2) (hR:Kd.R k70 70 w2 w0.heap.size (fun k=>(G k∧k≠g)∨w.heap.size≤k) v' L'):Pw w0 kind size slide a F N (Fx G w (w2.setCell ⟨g,10,none⟩ v')) (w2.setCell ⟨g,10,none⟩ v') q g v1 v5 v' ps L' mark:=by
 obtain⟨h1,h2⟩:=h.io.stored hf hR;exact h.toO h1 h2
theorem Pw.newS {q' N' :Nat} {ps' :List S70} (h:Pw w0 kind size slide a F N G w q g v1 v5 vL ps L mark) (hb:Below w.heap.size w w') (hI:IsS (fun k=>w.heap.size≤k∧k<w'.heap.size) N' w' q' ⟨kind,size,slide,a,ps'⟩):Pw w0 kind size slide a (fun k=>w.heap.size≤k∧k<w'.heap.size) N' G w' q' g v1 v5 vL ps' L mark:=
 ⟨⟨hI,h.hs.bl.trans (hb.mono h.hs.bs),Nat.le_trans h.hs.bs hb.size,fun k hk=>Nat.le_trans h.hs.bs hk.1⟩,h.io.below hb,fun k hk hg=>by
  have:=(h.io.bound k hg).2;omega⟩
theorem Pw.lt (h:Pw w0 kind size slide a F N G w q g v1 v5 vL ps L mark):w0.heap.size≤w.heap.size:=h.hs.bs
theorem Rec_calls (hf:Th.FitA kind size slide a) (h:Pw w0 kind size slide a F N G w q g v1 v5 vL ps L (-9223372036854775808)) (r:S39) (ht:Th.TimeOk r.f1) (hl:L.length≤100000) (hN:Th.NK kind L) (hP: ∀p ∈ L,Prp p):
  Calls Try.prog 16 #[.pointer (some ⟨g,0,none⟩),aggR r] w fun e w'=>(∃v,e= .returned v)∧ ∃G' vL' L',Pw w0 kind size slide a F N G' w' q g v1 v5 vL' ps L' (-9223372036854775808)∧Th.RSk kind a (L++(spansS kind size slide r.f1).map (Th.one a r.f0 r.f2)) L'∧Th.NK kind L' :=by
 have ha:=fitA_ok hf;have h64:=spansS_64 hf ht;obtain⟨Lf,c0,c1,c2,c3⟩:=ref_chain (kind:=kind) ha size slide r.f0 r.f1 r.f2 (spansS kind size slide r.f1) L (fun x hx=>(h64 x hx).2.1) (by have:=spansS_len kind size slide r.f1;omega) hN hP;by_cases hk:kind=0
 ·have hz:size=0∧slide=0:=by
   rcases hf.2 with h|h
   ·exact⟨h.2.1,h.2.2⟩
   ·have:=h.k1;omega
  have e:spansS kind size slide r.f1=[⟨-9223372036854775808,2199023255553⟩]:=by unfold spansS;rw[if_pos hk]
  rw[e] at c1 c2 c3;obtain⟨k,hk1⟩:=c1 0 (by simp);have hk1:leatref11_Into.f k kind size slide a (Lf 0) r.f0 r.f1 r.f2 (-9223372036854775808) 2199023255553=some (Lf 1):=hk1;rw[hk,hz.1,hz.2,c0] at hk1;refine(RecordR_calls h.io (by show(if kind=0 then(6:Int) else 7)=6;rw[if_pos hk]) r k hk1).mono ?_;rintro e w' ⟨hv,vL',hi,hfr⟩;exact⟨hv,_,vL',Lf 1,h.toO hi hfr,by have:=‹spansS kind size slide r.f1=_›;rw[this];exact c2,c3⟩
 ·have e:spansS kind size slide r.f1=Th.spansP kind size slide r.f1:=by unfold spansS;rw[if_neg hk]
  obtain⟨ks,hks⟩:=Th.rspans_ev (hf.2.resolve_left (fun h=>hk h.1)) ht;have hs:=hks ks (Nat.le_refl _);rw[←e] at hs;refine(RecordW_calls h.io (by show(if kind=0 then(6:Int) else 7)=7;rw[if_neg hk]) r (spansS kind size slide r.f1) ks hs (by have:=spansS_len kind size slide r.f1;omega) (fun x hx=>(h64 x hx).2.2) Lf c0 c1).mono ?_;rintro e w' ⟨hv,vL',hi,hfr⟩;exact⟨hv,_,vL',_,h.toO hi hfr,c2,c3⟩
theorem PutP_calls (hf:Th.FitA kind size slide a) (h:Pw w0 kind size slide a F N G w q g v1 v5 vL ps L mark) (hpi:Pi kind a ps L) (r:S39) (hr:I64 r.f0∧I64 r.f2) (ht:Th.TimeOk r.f1) (hN:N+ps.length+128≤1000000):
  Calls Try.prog 15 #[.pointer (some ⟨q,0,none⟩),aggR r] w fun e w'=>e= .returned (.tuple #[])∧Fr F w w'∧ ∃N' ps',Pw w0 kind size slide a (Fx F w w') N' G w' q g v1 v5 vL ps' L mark∧N'+ps'.length≤N+ps.length+128∧ps'.length≤ps.length+64∧Puts kind a r.f0 r.f2 ps (spansS kind size slide r.f1) ps' :=by
 have hl:=spansS_len kind size slide r.f1;refine(Put_calls h.hs.is r hr (spansS kind size slide r.f1) (spansS_is hf ht) (fun x hx=>(spansS_64 hf ht x hx).1) hl hN).mono ?_;rintro e w' ⟨rfl,N',ps',hto,hpot,hput⟩;have h2:ps'.length≤ps.length+(spansS kind size slide r.f1).length:=puts_len2 (fitA_ok hf) hr.2 hput hpi.nk hpi.prp (fun s hs=>(spansS_64 hf ht s hs).2.1);exact⟨rfl,hto.fr,N',ps',h.toS hto,by have:N'+ps'.length≤N+ps.length+2*(spansS kind size slide r.f1).length:=hpot;omega,by omega,hput⟩
theorem Fires_calls (h:Pw w0 kind size slide a F N G w q g v1 v5 vL ps L mark) (hl:L.length≤100000) (m:Int):Calls Try.prog 17 #[.bool (kind==0),vL,.int .i64 m] w fun e w'=> ∃A c vl out left,e= .returned (.tuple #[.slice A out.length c,vl])∧(out,left)=(if kind=0∧m≠9223372036854775807 then([],L) else(Th.outR m (sortP L),Th.leftR m (sortP L)))∧Fr (fun k=>G k∧k≠g) w w'∧Kd.R k39 39 w' w0.heap.size (fun k=>(G k∧k≠g)∨w.heap.size≤k) (.slice A out.length c) out∧Kd.R k70 70 w' w0.heap.size (fun k=>(G k∧k≠g)∨w.heap.size≤k) vl left∧out.length≤L.length:=by
 obtain⟨kf,hkf⟩:=fires_ev kind m L (by omega);have hk:=hkf kf (Nat.le_refl _);obtain⟨o,ho⟩: ∃o:List S39×List S70,(if kind=0∧m≠9223372036854775807 then([],L) else(Th.outR m (sortP L),Th.leftR m (sortP L)))=o:=⟨_,rfl⟩
 have hol:o.1.length≤L.length:=by
  rw[←ho];split
  ·simp
  ·have:=fire_len m L;show(Th.outR m (sortP L)).length≤_;omega
 rw[ho] at hk;rw[ho];obtain⟨out,left⟩:=o;refine(leatref13_Fires.calls kf (kind==0) (fun k=>G k∧k≠g) vL L m out left w0 w h.io.bl h.io.row hk).mono ?_;rintro e w' ⟨v0,vl,rfl,h1,h2,h3,h4⟩;obtain⟨A,c,rfl⟩:=Kd.R_slice h1;exact⟨A,c,vl,out,left,rfl,rfl,⟨h3.os.trans h.io.bl.os.symm,h3.tape.trans h.io.bl.tape.symm,h3.output.trans h.io.bl.output.symm,h4.1,h4.2⟩,h1,h2,hol⟩
theorem LoadP_calls (h:Pw w0 kind size slide a F N G w q g v1 v5 vL ps L mark) (ha:aggOk a=true) (hpi:Pi kind a ps L) (w1:World) (hb:Below w.heap.size w w1) (A:Option Addr) (c:Nat) (hR:Kd.R k70 70 w1 w.heap.size (fun _=>True) (.slice A (sortP ps).length c) (sortP ps)) (hl:ps.length≤100000):
  Calls Try.prog 20 #[.pointer (some ⟨q,0,none⟩),.slice A (sortP ps).length c] w1 fun e w'=>e= .returned (.tuple #[])∧ ∃F' N' ps',Pw w0 kind size slide a F' N' G w' q g v1 v5 vL ps' L mark∧Pi kind a ps' L∧N'≤ps.length∧ps'.length≤ps.length:=by
 have hI:=h.hs.is.below hb;refine(Load_calls hI A c (sortP ps) _ (Kd.F_mono (Kd.R_F (Kd.R_bound hR)) (fun k hk=>And.intro hk.2.1 hk.2.2.1)) (Kd.R_reads' hR).2.1 (fun k hk=>⟨fun hf=>by have h1:=h.hs.is.bound k hf;omega,hk.2⟩) (fun p hp=>h.hs.is.p64 p ((Th.sortP_perm ps).mem_iff.1 hp)) (by rw[sortP_len];omega)).mono ?_;rintro e w' ⟨rfl,hto⟩;have hp:=load_sort ha hpi.nk hpi.prp;refine⟨rfl,_,_,_,(h.below hb).toS hto,hpi.same ha hp,?_,by rw[hp.length_eq];exact Nat.le_refl _⟩;have:=loadOf_len kind a (sortP ps);rw[sortP_len] at this;exact this
theorem OpenP_calls (w:World) (kind size slide a:Int) (A:Option Addr) (c:Nat) (b:List Int) (hC:Kd.C (Kd.int .u8) w A b.length b) (hc:b.length≤c) (hl:b.length≤10000000) (h8:In8 b) (hok:OpenOk kind a b):
  Calls Try.prog 22 #[aggW kind size slide,.int .i64 a,.slice A b.length c] w fun e w'=> ∃q N',e= .returned (.tuple #[.pointer (some ⟨q,0,none⟩),.int .i64 0])∧Below w.heap.size w w'∧N'≤b.length∧IsS (fun k=>w.heap.size≤k∧k<w'.heap.size) N' w' q ⟨kind,size,slide,a,openL kind a b⟩:=by
 refine(Open_calls w kind size slide a A c b hC hc hl h8).mono ?_;rintro e w' ⟨hb,⟨hn,_⟩|⟨_,q,N',he,hN,hI⟩⟩
 ·exact absurd hok hn
 ·exact⟨q,N',he,hb,hN,hI⟩
end Go.Proofs.Ytjegeghigfmkoaa.T
namespace Go.Proofs.Ytjegeghigfmkoaa.T
open Go.RowKit Go.Maps Go.Sort Go.Proofs Go.Proofs.Ytjegeghigfmkoaa Go.Proofs.Ytjegeghigfmkoaa.X Go.Proofs.YtjegeghigfmkoaaW.PrintWords Go.Proofs.YtjegeghigfmkoaaW.PrintLast Go.Proofs.YtjegeghigfmkoaaW.PrintMore
set_option linter.unusedVariables false
set_option linter.unusedSimpArgs false
set_option maxRecDepth 100000
theorem min_mn (ats:Array TypeId) (ty:TypeId) (k k' :IntKind) (x y:Int):Builtin.min_ ats ty #[.int k x,.int k' y]=pure (.int k (mn x y)):=by rw[min_two,min2_int];rfl
attribute [local go_sem] min_mn
variable {F:Nat→Prop} {N:Nat} {w w' :World} {q b1 b2:Nat} {tv:Value} {tm:List Int} {s:St}
structure StepL (w0:World) (A:Option Addr) (l:List S41):Prop where
 c: ∀W,Below w0.heap.size w0 W→Kd.C k41 W A l.length l
 i64: ∀x ∈ l,(I64 x.f1.f0∧I64 x.f1.f2)∧I64 x.f2
theorem node_any (kind size slide a kd:Int) (hkd:(if kind=0 then(6:Int) else 7)=kd) (hf:Th.FitA kind size slide a) (w:World):Calls Try.prog 13 #[aggW kind size slide,.int .i64 a] w fun e w'=> ∃v1 v5,e= .returned (.agg #[.int .i64 kd,v1,.int .i64 0,.int .i64 0,.int .i64 0,v5,.int .i64 a,.int .i64 kind,.int .i64 size,.int .i64 slide])∧v1.oneCell'=true∧v5.oneCell'=true∧Below w.heap.size w w' :=by
 by_cases hk:kind=0
 ·have hz:size=0∧slide=0:=by
   rcases hf.2 with h|h
   ·exact⟨h.2.1,h.2.2⟩
   ·have:=h.k1;omega
  refine(leatlaw12_node.calls kind size slide a 6 [] 0 0 0 [] a 0 0 0 w (by unfold leatlaw12_node.f;rw[if_pos hk])).mono ?_;rintro e w' ⟨v1,v5,rfl,h1,h5,hb⟩;obtain⟨A1,c1,rfl⟩:=Kd.R_slice h1;obtain⟨A5,c5,rfl⟩:=Kd.R_slice h5;exact⟨_,_,by rw[←hkd,if_pos hk,hk,hz.1,hz.2],rfl,rfl,hb⟩
 ·refine(leatlaw12_node.calls kind size slide a 7 [] 0 0 0 [] a kind size slide w (by unfold leatlaw12_node.f;rw[if_neg hk])).mono ?_;rintro e w' ⟨v1,v5,rfl,h1,h5,hb⟩;obtain⟨A1,c1,rfl⟩:=Kd.R_slice h1;obtain⟨A5,c5,rfl⟩:=Kd.R_slice h5;exact⟨_,_,by rw[←hkd,if_neg hk],rfl,rfl,hb⟩
theorem next4 {ps T:List S70} {t:Int} {b:Bool} (h:NextIs ps t b) (hT:sortP ps=T) (h64: ∀p ∈ ps,P64 p):(b=false∧t=0∧T.length=0)∨(b=true∧0<T.length∧leastT T=t):=by
 rcases h with ⟨h1,h2,h3⟩|⟨h1,h2,h3⟩
 ·refine Or.inl ⟨h1,h2,?_⟩;rw[←hT,h3,sortP_len];rfl
 ·refine Or.inr ⟨h1,?_,?_⟩
  ·rw[←hT,sortP_len];obtain⟨p,hp,_⟩:=h2;exact List.length_pos_of_mem hp
  ·rw[←hT];refine least_is ?_ h2 h3;obtain⟨p,hp,rfl⟩:=h2;have:=wrap64_in (p.f1.f1-1);unfold I64 at this;exact this.2
structure Pj (w0:World) (kind size slide a:Int) (F:Nat→Prop) (N:Nat) (G:Nat→Prop) (w:World) (q g:Nat) (v1 v5 vL:Value) (ps L:List S70) (mark:Int) (i:Nat):Prop where
 pw:Pw w0 kind size slide a F N G w q g v1 v5 vL ps L mark
 pi:Pi kind a ps L
 pot:N+ps.length≤200000+128*i
 len:ps.length≤64*i
def Tpl.T5:Bool×List (List Nat×List Nat):=(true,[([],[]),([],[]),([0,1],[0,1]),([],[]),([],[]),([3,4,2],[3,4]),([5,5],[5]),([2,6,0,1,2],[2]),([6,7,0,1,2,3,4,5,6,7],[6])])
def Tpl.B5:List Nat:=[0,0,3,0,0,31,63,127,255]
theorem Tpl.tab5:rtab .any (opsOf Try.f3 5)=Tpl.T5:=by kernel_rfl
theorem Tpl.bits5:waitsOk Tpl.T5.2 Tpl.B5=true:=by kernel_rfl
def Tpl.T21:Bool×List (List Nat×List Nat):=(true,[([],[]),([0],[0]),([1],[1]),([],[]),([3],[3]),([4],[4]),([5],[5]),([],[]),([7],[7]),([2,6,8],[2,6,8]),([9],[9]),([10],[10]),([10],[10]),([11,9,0,1,2,3,4,5,6,7,8,9,10,11],[11]),([12,13,0,1,2,3,4,5,6,7,8,9,10,11,12,13],[12])])
def Tpl.B21:List Nat:=[0,1,3,0,8,24,56,0,128,511,1023,2047,2047,4095,16383]
theorem Tpl.tab21:rtab .any (opsOf Try.f3 21)=Tpl.T21:=by kernel_rfl
theorem Tpl.bits21:waitsOk Tpl.T21.2 Tpl.B21=true:=by kernel_rfl
def Tpl.T28:Bool×List (List Nat×List Nat):=(true,[([],[]),([],[]),([],[]),([2],[2]),([0,1,3,3],[0,1,3]),([4],[4]),([5],[5]),([5],[5]),([6,4,0,1,2,3,4,5,6],[6]),([7,8,0,1,2,3,4,5,6,7,8],[7])])
def Tpl.B28:List Nat:=[0,0,0,4,15,31,63,63,127,511]
theorem Tpl.tab28:rtab .any (opsOf Try.f3 28)=Tpl.T28:=by kernel_rfl
theorem Tpl.bits28:waitsOk Tpl.T28.2 Tpl.B28=true:=by kernel_rfl
set_option maxHeartbeats 16000000 in
theorem StatePlays_calls (w:World) (kind size slide a:Int) (A3:Option Addr) (c3:Nat) (l:List S41) (hl:StepL w A3 l) (hc3:l.length≤c3):
    Calls Try.prog 3 #[aggW kind size slide,.int .i64 a,.slice A3 l.length c3] w fun e w'=>e= .returned (.bool true)∧Below w.heap.size w w' :=by
  obtain⟨fb,hfb,KF⟩:=fit_any kind size slide a;have HL:=Aside0.mk hl;have HC:=Aside0.mk hc3;have HFB:=Aside0.mk hfb;have KF:=Aside0.mk KF;clear hl hc3 hfb;go_enter Try.func3,Try.ntmps3;go_wp2_with fail;have HW1:=Aside0.mk (heap_alloc_new w (.cells #[.int .i64 kind,.int .i64 size,.int .i64 slide] 23));have HB1:=Aside0.mk ((Below.refl w.heap.size w).alloc (Nat.le_refl _) (.cells #[.int .i64 kind,.int .i64 size,.int .i64 slide] 23));generalize (w.alloc (.cells #[.int .i64 kind,.int .i64 size,.int .i64 slide] 23))=w1 at HW1 HB1 ⊢;cases fb with
  | false=>
    go_wp2_with (first
      | (go_at_call 9
         refine(known_calls w1).mono ?_;rintro e w2 ⟨rfl,hb2⟩;have hw2:=blk_below HW1.out hb2;have HW2:=Aside0.mk hw2;have HB2:=Aside0.mk (HB1.out.trans (hb2.mono HB1.out.size));have z0:=(blk_cell hw2 0).trans rfl;have z1:=(blk_cell hw2 1).trans rfl;have z2:=(blk_cell hw2 2).trans rfl;clear hb2 hw2)
      | (go_at_call 10
         refine(KF.out w2).mono ?_;rintro e w3 ⟨rfl,hb3⟩;have hw3:=blk_below HW2.out hb3;have HW3:=Aside0.mk hw3;have HB3:=Aside0.mk (HB2.out.trans (hb3.mono HB2.out.size));have y0:=(blk_cell hw3 0).trans rfl;have y1:=(blk_cell hw3 1).trans rfl;have y2:=(blk_cell hw3 2).trans rfl;clear hb3 hw3 z0 z1 z2)
      |fail)
    go_ret;exact⟨rfl,HB3.out⟩
  |true=>
  have HFA:=Aside0.mk (HFB.out rfl);by_cases hl4:(l.length:Int)>80
  · go_wp2_with (first
      | (go_at_call 9
         refine(known_calls w1).mono ?_;rintro e w2 ⟨rfl,hb2⟩;have hw2:=blk_below HW1.out hb2;have HW2:=Aside0.mk hw2;have HB2:=Aside0.mk (HB1.out.trans (hb2.mono HB1.out.size));have z0:=(blk_cell hw2 0).trans rfl;have z1:=(blk_cell hw2 1).trans rfl;have z2:=(blk_cell hw2 2).trans rfl;clear hb2 hw2)
      | (go_at_call 10
         refine(KF.out w2).mono ?_;rintro e w3 ⟨rfl,hb3⟩;have hw3:=blk_below HW2.out hb3;have HW3:=Aside0.mk hw3;have HB3:=Aside0.mk (HB2.out.trans (hb3.mono HB2.out.size));have y0:=(blk_cell hw3 0).trans rfl;have y1:=(blk_cell hw3 1).trans rfl;have y2:=(blk_cell hw3 2).trans rfl;clear hb3 hw3 z0 z1 z2)
      |fail)
    go_ret;exact⟨rfl,HB3.out⟩
  go_wp2_with (first
      | (go_at_call 9
         refine(known_calls w1).mono ?_;rintro e w2 ⟨rfl,hb2⟩;have hw2:=blk_below HW1.out hb2;have HW2:=Aside0.mk hw2;have HB2:=Aside0.mk (HB1.out.trans (hb2.mono HB1.out.size));have z0:=(blk_cell hw2 0).trans rfl;have z1:=(blk_cell hw2 1).trans rfl;have z2:=(blk_cell hw2 2).trans rfl;clear hb2 hw2)
      | (go_at_call 10
         refine(KF.out w2).mono ?_;rintro e w3 ⟨rfl,hb3⟩;have hw3:=blk_below HW2.out hb3;have HW3:=Aside0.mk hw3;have HB3:=Aside0.mk (HB2.out.trans (hb3.mono HB2.out.size));have y0:=(blk_cell hw3 0).trans rfl;have y1:=(blk_cell hw3 1).trans rfl;have y2:=(blk_cell hw3 2).trans rfl;clear hb3 hw3 z0 z1 z2)
      |fail)
  have HLL:Aside0 (l.length≤80):=⟨by omega⟩
  clear hl4;obtain⟨kd,hkd⟩: ∃kd:Int,(if kind=0 then(6:Int) else 7)=kd:=⟨_,rfl⟩
  have HKD:=Aside0.mk hkd;clear hkd;refine start_ (n:=9) (S:=fun w'=>w'.cell? ⟨w.heap.size,0,none⟩=some (.int .i64 kind)∧w'.cell? ⟨w.heap.size,1,none⟩=some (.int .i64 size)∧w'.cell? ⟨w.heap.size,2,none⟩=some (.int .i64 slide)) (ds:=[]) #[false,false,false,false,false,false,false,false,false] (by kernel_rfl) rfl rfl ⟨(blk_cell (blk_drew HW3.out) 0).trans rfl,(blk_cell (blk_drew HW3.out) 1).trans rfl,(blk_cell (blk_drew HW3.out) 2).trans rfl⟩ (fun hHeld=> ?_);refine with_tabW Tpl.tab5 Tpl.bits5 (fun HT_ HW_=> ?_);have HBD:Aside0 (Below w3.heap.size w3 w3.drew):=⟨below_drew (Below.refl _ _)⟩
  have HWD:=Aside0.mk (blk_drew HW3.out);generalize hwd:World.drew w3=wd at HBD HWD hHeld ⊢;clear hwd;refine take_ (i:=0) (N:=some 31) (v:= ?_) (a' := ?_) #[true,false,false,false,false,false,false,false,false] rfl rfl (take_ofW HT_.out HW_.out (by kernel_rfl)) (fun _ _ _ h=>h) (Or.inl ⟨by rfl,?_⟩) hHeld ?_ ?_;rotate_left
  · rintro w' ⟨s0,s1,s2⟩
    go_simp
    with_reducible rfl
  rotate_left
  · simp only[Act.put,List.setIfInBounds_toArray,List.set_cons_zero,List.set_cons_succ,i64_w,i32_w]
    rfl
  refine pure_ (i:=1) (N:=some 32) (v:= ?_) (a' := ?_) #[true,true,false,false,false,false,false,false,false] rfl rfl (any_of HT_.out (by kernel_rfl)) (fun _ _ _ h=>h) (Or.inl ⟨by rfl,?_⟩) ?_ ?_;rotate_left
  · intro w'
    go_simp
    with_reducible rfl
  rotate_left
  · simp only[Act.put,List.setIfInBounds_toArray,List.set_cons_zero,List.set_cons_succ,i64_w,i32_w]
    rfl
  refine take_ (i:=3) (N:=some 34) (v:= ?_) (a' := ?_) #[true,true,false,true,false,false,false,false,false] rfl rfl (take_ofW HT_.out HW_.out (by kernel_rfl)) (fun _ _ _ h=>h) (Or.inl ⟨by rfl,?_⟩) hHeld ?_ ?_;rotate_left
  · rintro w' ⟨s0,s1,s2⟩
    go_simp
    with_reducible rfl
  rotate_left
  · simp only[Act.put,List.setIfInBounds_toArray,List.set_cons_zero,List.set_cons_succ,i64_w,i32_w]
    rfl
  refine pure_ (i:=4) (N:=some 35) (v:= ?_) (a' := ?_) #[true,true,false,true,true,false,false,false,false] rfl rfl (any_of HT_.out (by kernel_rfl)) (fun _ _ _ h=>h) (Or.inl ⟨by rfl,?_⟩) ?_ ?_;rotate_left
  · intro w'
    go_simp
    with_reducible rfl
  rotate_left
  · simp only[Act.put,List.setIfInBounds_toArray,List.set_cons_zero,List.set_cons_succ,i64_w,i32_w]
    rfl
  refine one_ (i:=2) (N:=some 33) #[true,true,true,true,true,false,false,false,false] rfl rfl (one_of HT_.out (by kernel_rfl)) (by decide) (fun K hK=> ?_);refine goes_ Try.func11 (by kernel_rfl) rfl #[aggW kind size slide,.int .i64 a] (by rfl) rfl rfl (by(try simp only[List.map_toArray,List.map_cons,List.map_nil]);first|done|rfl) ?_;refine(New_hs wd kind size slide a).mono ?_;rintro e w4 ⟨q1,rfl,hs4,hb4⟩;refine⟨_,rfl,?_⟩;have HS4:=Aside0.mk hs4;have HW4:=Aside0.mk (blk_below HWD.out hb4);have HB4:=Aside0.mk hb4;clear hs4 hb4;refine hK.out _ _ ⟨(blk_cell HW4.out 0).trans rfl,(blk_cell HW4.out 1).trans rfl,(blk_cell HW4.out 2).trans rfl⟩ (fun hHeld=> ?_);clear hK K;refine norm_ (a' := ?_) ?_ ?_;rotate_left
  · show Act.put _ (some 33) _=_
    simp only[Act.put,List.setIfInBounds_toArray,List.set_cons_zero,List.set_cons_succ,i64_w,i32_w];rfl
  refine one_ (i:=5) (N:=some 36) #[true,true,true,true,true,true,false,false,false] rfl rfl (one_of HT_.out (by kernel_rfl)) (by decide) (fun K hK=> ?_);refine goes_ Try.func13 (by kernel_rfl) rfl #[aggW kind size slide,.int .i64 a] (by rfl) rfl rfl (by(try simp only[List.map_toArray,List.map_cons,List.map_nil]);first|done|rfl) ?_;refine(node_any kind size slide a kd HKD.out HFA.out w4).mono ?_;rintro e w5 ⟨v1,v5,rfl,h1,h5,hb5⟩;refine⟨_,rfl,?_⟩;have HW5:=Aside0.mk (blk_below HW4.out hb5);have HS5:=Aside0.mk (HS4.out.below hb5);have HB5:=Aside0.mk (HB4.out.trans (hb5.mono HB4.out.size));have HZ5:=Aside0.mk hb5.size;clear hb5;refine hK.out _ _ ⟨(blk_cell HW5.out 0).trans rfl,(blk_cell HW5.out 1).trans rfl,(blk_cell HW5.out 2).trans rfl⟩ (fun hHeld=> ?_);clear hK K;refine norm_ (a' := ?_) ?_ ?_;rotate_left
  · show Act.put _ (some 36) _=_
    simp only[Act.put,List.setIfInBounds_toArray,List.set_cons_zero,List.set_cons_succ,i64_w,i32_w];rfl
  have KR:=RefNew_calls wd w5 HB5.out kd 0 0 0 a kind size slide v1 v5 h1 h5;refine one_ (i:=6) (N:=some 37) #[true,true,true,true,true,true,true,false,false] rfl rfl (one_of HT_.out (by kernel_rfl)) (by decide) (fun K hK=> ?_);refine goes_ Try.func12 (by kernel_rfl) rfl #[.agg #[.int .i64 kd,v1,.int .i64 0,.int .i64 0,.int .i64 0,v5,.int .i64 a,.int .i64 kind,.int .i64 size,.int .i64 slide]] (by rfl) rfl rfl (by(try simp only[List.map_toArray,List.map_cons,List.map_nil]);first|done|rfl) ?_;refine(KR).mono ?_;rintro e w6 ⟨g,rfl,hio,hb6⟩;refine⟨_,rfl,?_⟩;have HW6:=Aside0.mk (blk_below HW5.out hb6);have HS6:=Aside0.mk (HS5.out.below hb6);have HIO:=Aside0.mk hio;clear hb6 hio KR h1 h5;refine hK.out _ _ ⟨(blk_cell HW6.out 0).trans rfl,(blk_cell HW6.out 1).trans rfl,(blk_cell HW6.out 2).trans rfl⟩ (fun hHeld=> ?_);clear hK K;refine norm_ (a' := ?_) ?_ ?_;rotate_left
  · show Act.put _ (some 37) _=_
    simp only[Act.put,List.setIfInBounds_toArray,List.set_cons_zero,List.set_cons_succ,i64_w,i32_w];rfl
  refine pure_ (i:=7) (N:=some 7) (v:= ?_) (a' := ?_) #[true,true,true,true,true,true,true,true,false] rfl rfl (any_of HT_.out (by kernel_rfl)) (fun _ _ _ h=>h) (Or.inl ⟨by rfl,?_⟩) ?_ ?_;rotate_left
  · intro w'
    go_simp
    with_reducible rfl
  rotate_left
  · simp only[Act.put,List.setIfInBounds_toArray,List.set_cons_zero,List.set_cons_succ,i64_w,i32_w]
    rfl
  refine pure_ (i:=8) (N:=some 8) (v:= ?_) (a' := ?_) #[true,true,true,true,true,true,true,true,true] rfl rfl (any_of HT_.out (by kernel_rfl)) (fun _ _ _ h=>h) (Or.inl ⟨by rfl,?_⟩) ?_ ?_;rotate_left
  · intro w'
    go_simp
    with_reducible rfl
  rotate_left
  · simp only[Act.put,List.setIfInBounds_toArray,List.set_cons_zero,List.set_cons_succ,i64_w,i32_w]
    rfl
  refine done_ (done_of HT_.out (by kernel_rfl)) ?_;have HBW:Aside0 (Below w.heap.size w wd):=⟨HB3.out.trans (HBD.out.mono HB3.out.size)⟩
  have HWL:Aside0 (w.heap.size<wd.heap.size):=⟨lt_of_block HWD.out⟩
  have HP0:Aside0 (Pj wd kind size slide a (fun k=>wd.heap.size≤k∧k<w4.heap.size) 0 (fun k=>w5.heap.size≤k∧k<w6.heap.size) w6 q1 g v1 v5 (.slice none 0 0) [] [] (-9223372036854775808) 0):=⟨⟨⟨HS6.out,(by unfold ro;rw[HKD.out];exact HIO.out),fun k hk hg=>by have:=HS4.out.is.bound k hk;have:=HB5.out.size;have:=HZ5.out;omega⟩,⟨.refl _,List.Pairwise.nil,fun p hp=>by cases hp⟩,by simp,by simp⟩⟩
  clear HS4 HS5 HS6 HW1 HW2 HB1 HB2 HB4 HW4 HW5 HW6 HB5 HW3 HB3 HBD hHeld HIO;go_wp2_with fail;go_loopg [7,9] l.length (fun kx s7 s9 wr=> ∃(i q:Nat) (F:Nat→Prop) (N:Nat) (G:Nat→Prop) (vL:Value) (ps L:List S70) (mark:Int),s7= .pointer (some ⟨q,0,none⟩)∧s9= .int .i64 i∧l.length-i≤kx∧i≤l.length∧Aside0 (Pj wd kind size slide a F N G wr q g v1 v5 vL ps L mark i))
  case atStart=>exact⟨0,_,_,_,_,_,_,_,_,rfl,rfl,by omega,by omega,HP0⟩
  case round =>
    clear HP0
    rename World=>wr
    obtain⟨i,q,F,N,G,vL,ps,L,mark,rfl,rfl,hkx,hi,HQ⟩:=hrel;have HBR:=Aside0.mk (HBW.out.trans (HQ.out.pw.hs.bl.mono HBW.out.size));by_cases hlt:i<l.length
    · have hlz : ((i :Int)<(l.length:Int)):=by omega
      have hiz:(0:Int)≤(i:Int):=by omega
      obtain⟨ad,rfl,x0,x1,x2,x3,x4⟩:=at_T41 (HL.out.c wr HBR.out) (i:Int) hiz hlz;obtain⟨x,hx⟩: ∃x:S41,l[i]=x:=⟨_,rfl⟩
      have hgd:rd_T41 l (i:Int)=x:=by rw[←hx];simp[rd_T41,hlt]
      rw[hgd] at x0 x1 x2 x3 x4;have hin:((i:Int)).toNat=i:=by omega
      rw[hin] at x0 x1 x2 x3 x4;have HX64:=Aside0.mk (HL.out.i64 x (by rw[←hx];exact List.getElem_mem hlt));have hwi:wrap64 ((i:Int)+1)=((i+1:Nat):Int):=by have:=HLL.out;unfold wrap64;omega
      have HI1:=Aside0.mk (And.intro hkx (And.intro hi hlt));have HI80:Aside0 (i<80):=⟨by have:=HLL.out;omega⟩
      clear hkx hi hx hgd hin hlt;go_upto_block 2 with (fail)
      have HBX:=Aside0.mk (heap_alloc_new wr (.cells #[.int .i64 x.f0,.int .i64 x.f1.f0,.int .i64 x.f1.f1,.int .i64 x.f1.f2,.int .i64 x.f2] 41));have HBA:=Aside0.mk ((Below.refl wr.heap.size wr).alloc (Nat.le_refl _) (.cells #[.int .i64 x.f0,.int .i64 x.f1.f0,.int .i64 x.f1.f1,.int .i64 x.f1.f2,.int .i64 x.f2] 41));generalize hwx:(wr.alloc (.cells #[.int .i64 x.f0,.int .i64 x.f1.f0,.int .i64 x.f1.f1,.int .i64 x.f1.f2,.int .i64 x.f2] 41))=wx at HBX HBA ⊢;have HQX:=Aside0.mk (HQ.out.pw.below HBA.out);obtain⟨B,hB⟩: ∃B,wr.heap.size=B:=⟨_,rfl⟩
      have HNB:Aside0 (¬F B∧ ¬G B∧B≠g∧wd.heap.size≤B):=⟨⟨fun h=>by have:=HQ.out.pw.hs.is.bound _ h;omega,fun h=>by have:=(HQ.out.pw.io.bound _ h).2;omega,by have:=(HQ.out.pw.io.bound _ HQ.out.pw.io.gG).2;omega,by have:=HQ.out.pw.hs.bs;omega⟩⟩
      rw[hB] at HBX ⊢;have HPI:=Aside0.mk HQ.out.pi;have HPO:=Aside0.mk (And.intro HQ.out.pot HQ.out.len);clear hwx x0 x1 x2 x3 x4 hlz hiz hB HBA HBR;go_cut [7] from 38 to 185 (fun s7 wc=> ∃(q:Nat) (F:Nat→Prop) (N:Nat) (G:Nat→Prop) (vL:Value) (ps L:List S70) (mark:Int),s7= .pointer (some ⟨q,0,none⟩)∧Aside0 (Pj wd kind size slide a F N G wc q g v1 v5 vL ps L mark (i+1)))
      case first =>
        go_step;go_step;go_cut [50] from 51 to 54 (fun s50 wc=>s50= .bool (decide (0≤x.f0∧x.f0≤3))∧wx=wc)
        case first=>
          by_cases c0:x.f0=0
          · have b0:(x.f0==0)=true:=by simpa using c0
            have hde:decide (0≤x.f0∧x.f0≤3)=true:=decide_eq_true (by omega);clear c0;go_wp2_with fail;go_meet
            case rel=>exact⟨by rw[hde],rfl⟩
          have b0:(x.f0==0)=false:=by simpa using c0
          by_cases c1:x.f0=1
          · have b1:(x.f0==1)=true:=by simpa using c1
            have hde:decide (0≤x.f0∧x.f0≤3)=true:=decide_eq_true (by omega);clear c0 c1;go_wp2_with fail;go_meet
            case rel=>exact⟨by rw[hde],rfl⟩
          have b1:(x.f0==1)=false:=by simpa using c1
          by_cases c2:x.f0=2
          · have b2:(x.f0==2)=true:=by simpa using c2
            have hde:decide (0≤x.f0∧x.f0≤3)=true:=decide_eq_true (by omega);clear c0 c1 c2;go_wp2_with fail;go_meet
            case rel=>exact⟨by rw[hde],rfl⟩
          have b2:(x.f0==2)=false:=by simpa using c2
          by_cases c3:x.f0=3
          · have b3:(x.f0==3)=true:=by simpa using c3
            have hde:decide (0≤x.f0∧x.f0≤3)=true:=decide_eq_true (by omega);clear c0 c1 c2 c3;go_wp2_with fail;go_meet
            case rel=>exact⟨by rw[hde],rfl⟩
          have b3:(x.f0==3)=false:=by simpa using c3
          have hde:decide (0≤x.f0∧x.f0≤3)=false:=decide_eq_false (by omega);clear c0 c1 c2 c3;go_wp2_with fail;go_meet
          case rel=>exact⟨by rw[hde],rfl⟩
        case rest=>
          obtain⟨rfl,rfl⟩:=hcut;have HBwx:Aside0 (Below w.heap.size w wx):=⟨HBW.out.trans (HQX.out.hs.bl.mono HBW.out.size)⟩
          have HAG:=Aside0.mk (fitA_ok HFA.out)
          have HLL5:Aside0 (ps.length≤5120∧L.length≤5120):=⟨by
            have h1:=HPO.out.2;have h2:=HI80.out;have h3:=HPI.out.perm.length_eq;omega⟩
          have HBlt:Aside0 (B<wx.heap.size):=⟨lt_of_block HBX.out⟩
          by_cases hp:0≤x.f0∧x.f0≤3
          · rw [decide_eq_true hp]
            clear hp;have bx1:=(blk_cell HBX.out 1).trans rfl;have bx2:=(blk_cell HBX.out 2).trans rfl;have bx3:=(blk_cell HBX.out 3).trans rfl;have KT:=time_any x.f1.f1 wx;by_cases ht:Th.TimeOk x.f1.f1
            · rw[decide_eq_true ht] at KT
              have HT:=Aside0.mk ht;clear ht;have hBg:B≠g:=HNB.out.2.2.1;have hgB:g≠B:=fun e=>hBg e.symm
              go_wp2_with (first
                | (go_at_call 14
                   refine KT.mono ?_;clear KT bx1 bx2 bx3;rintro e w2 ⟨rfl,hb2⟩;have hB2:=blk_below HBX.out hb2;have bx1:=(blk_cell hB2 1).trans rfl;have bx2:=(blk_cell hB2 2).trans rfl;have bx3:=(blk_cell hB2 3).trans rfl;have HB2:=Aside0.mk hB2;have KP:=PutP_calls HFA.out (HQX.out.below hb2) HPI.out x.f1 HX64.out.1 HT.out (by have h1:=HPO.out.1;have h2:=HI80.out;omega);clear hb2 hB2)
                | (go_at_call 15
                   refine KP.mono ?_;clear KP bx1 bx2 bx3;rintro e w3 ⟨rfl,hfr,N3,ps3,hpw,hpot,hlen,hput⟩;have hB3:=(hfr.block B (lt_of_block HB2.out) HNB.out.1).trans HB2.out;have hB4:=((Fr.setCell (M:=fun k=>k=g) (Fr.refl _ w3) (p:=⟨g,11,none⟩) rfl (.int .i64 (-9223372036854775808))).block B (lt_of_block hB3) HNB.out.2.2.1).trans hB3;have by1:=(blk_cell hB4 1).trans rfl;have by2:=(blk_cell hB4 2).trans rfl;have by3:=(blk_cell hB4 3).trans rfl;have c11:=(blk_cell hpw.io.at_ 11).trans rfl;have f11:=blk_frozen hpw.io.at_ 11;have bx1:=(blk_cell hB3 1).trans rfl;have bx2:=(blk_cell hB3 2).trans rfl;have bx3:=(blk_cell hB3 3).trans rfl;have HPM:=Aside0.mk (hpw.mark_ (-9223372036854775808));have HPU:=Aside0.mk (And.intro hpot (And.intro hlen hput));have KR:=Rec_calls HFA.out HPM.out x.f1 HT.out (by have:=HLL5.out.2;omega) (HPI.out.nkL HAG.out) HPI.out.prpL;clear hfr hpw hpot hlen hput hB3 hB4)
                | (go_at_call 16
                   refine KR.mono ?_;clear KR;rintro e w4 ⟨⟨v,rfl⟩,G4,vL4,L4,hpw,hrs,hnk⟩;have HP4:=Aside0.mk hpw;have HL4:=Aside0.mk (And.intro hrs hnk);clear hpw hrs hnk)
                |fail)
              go_meet
              case rel=>exact⟨_,_,_,_,_,_,_,_,rfl,⟨⟨HP4.out,HPI.out.put HAG.out HX64.out.1.2 HPU.out.2.2 (fun s hs=>(spansS_64 HFA.out HT.out s hs).2.1) HL4.out.1 HL4.out.2,by have h1:=HPU.out.1;have h2:=HPO.out.1;omega,by have h1:=HPU.out.2.1;have h2:=HPO.out.2;omega⟩⟩⟩
            · rw[decide_eq_false ht] at KT
              clear ht
              go_wp2_with (first
                | (go_at_call 14
                   refine KT.mono ?_;clear KT;rintro e w2 ⟨rfl,hb2⟩;have HB2:=Aside0.mk hb2;clear hb2)
                |fail)
              go_ret;exact⟨rfl,HBwx.out.trans (HB2.out.mono HBwx.out.size)⟩
          rw[decide_eq_false hp];clear hp;by_cases c4:x.f0=4
          · have b4:(x.f0==4)=true:=by simpa using c4
            clear c4;go_wp2_with fail;have HY:=Aside0.mk (HQX.out.below (below_drew (Below.refl _ _)));have HYB:=Aside0.mk (blk_drew HBX.out);have HYW:Aside0 (wx.drew.heap[w.heap.size]? =some (.cells #[.int .i64 kind,.int .i64 size,.int .i64 slide] 23 (0,0))):=⟨(HQX.out.hs.bl.block _ HWL.out).trans HWD.out⟩
            refine start_ (n:=15) (S:=fun w'=>w'.cell? ⟨w.heap.size,0,none⟩=some (.int .i64 kind)∧w'.cell? ⟨g,10,none⟩=some vL∧w'.cell? ⟨B,4,none⟩=some (.int .i64 x.f2)) (ds:=[]) #[false,false,false,false,false,false,false,false,false,false,false,false,false,false,false] (by kernel_rfl) rfl rfl ⟨(blk_cell HYW.out 0).trans rfl,(blk_cell HY.out.io.at_ 10).trans rfl,(blk_cell HYB.out 4).trans rfl⟩ (fun hHeld=> ?_);refine with_tabW Tpl.tab21 Tpl.bits21 (fun HT_ HW_=> ?_);generalize hwy:World.drew wx=wy at HY HYB HYW hHeld ⊢;clear hwy;refine pure_ (i:=0) (N:=some 74) (v:= ?_) (a' := ?_) #[true,false,false,false,false,false,false,false,false,false,false,false,false,false,false] rfl rfl (any_of HT_.out (by kernel_rfl)) (fun _ _ _ h=>h) (Or.inl ⟨by rfl,?_⟩) ?_ ?_;rotate_left
            · intro w'
              go_simp
              with_reducible rfl
            rotate_left
            · simp only[Act.put,List.setIfInBounds_toArray,List.set_cons_zero,List.set_cons_succ,i64_w,i32_w]
              rfl
            refine take_ (i:=1) (N:=some 75) (v:= ?_) (a' := ?_) #[true,true,false,false,false,false,false,false,false,false,false,false,false,false,false] rfl rfl (take_ofW HT_.out HW_.out (by kernel_rfl)) (fun _ _ _ h=>h) (Or.inl ⟨by rfl,?_⟩) hHeld ?_ ?_;rotate_left
            · rintro w' ⟨s0,s1,s2⟩
              go_simp
              with_reducible rfl
            rotate_left
            · simp only[Act.put,List.setIfInBounds_toArray,List.set_cons_zero,List.set_cons_succ,i64_w,i32_w]
              rfl
            refine pure_ (i:=2) (N:=some 76) (v:= ?_) (a' := ?_) #[true,true,true,false,false,false,false,false,false,false,false,false,false,false,false] rfl rfl (any_of HT_.out (by kernel_rfl)) (fun _ _ _ h=>h) (Or.inl ⟨by rfl,?_⟩) ?_ ?_;rotate_left
            · intro w'
              go_simp
              with_reducible rfl
            rotate_left
            · simp only[Act.put,List.setIfInBounds_toArray,List.set_cons_zero,List.set_cons_succ,i64_w,i32_w]
              rfl
            refine pure_ (i:=3) (N:=some 77) (v:= ?_) (a' := ?_) #[true,true,true,true,false,false,false,false,false,false,false,false,false,false,false] rfl rfl (any_of HT_.out (by kernel_rfl)) (fun _ _ _ h=>h) (Or.inl ⟨by rfl,?_⟩) ?_ ?_;rotate_left
            · intro w'
              go_simp
              with_reducible rfl
            rotate_left
            · simp only[Act.put,List.setIfInBounds_toArray,List.set_cons_zero,List.set_cons_succ,i64_w,i32_w]
              rfl
            refine pure_ (i:=4) (N:=some 78) (v:= ?_) (a' := ?_) #[true,true,true,true,true,false,false,false,false,false,false,false,false,false,false] rfl rfl (any_of HT_.out (by kernel_rfl)) (fun _ _ _ h=>h) (Or.inl ⟨by rfl,?_⟩) ?_ ?_;rotate_left
            · intro w'
              go_simp
              with_reducible rfl
            rotate_left
            · simp only[Act.put,List.setIfInBounds_toArray,List.set_cons_zero,List.set_cons_succ,i64_w,i32_w]
              rfl
            refine pure_ (i:=5) (N:=some 79) (v:= ?_) (a' := ?_) #[true,true,true,true,true,true,false,false,false,false,false,false,false,false,false] rfl rfl (any_of HT_.out (by kernel_rfl)) (fun _ _ _ h=>h) (Or.inl ⟨by rfl,?_⟩) ?_ ?_;rotate_left
            · intro w'
              go_simp
              with_reducible rfl
            rotate_left
            · simp only[Act.put,List.setIfInBounds_toArray,List.set_cons_zero,List.set_cons_succ,i64_w,i32_w]
              rfl
            refine take_ (i:=6) (N:=some 80) (v:= ?_) (a' := ?_) #[true,true,true,true,true,true,true,false,false,false,false,false,false,false,false] rfl rfl (take_ofW HT_.out HW_.out (by kernel_rfl)) (fun _ _ _ h=>h) (Or.inl ⟨by rfl,?_⟩) hHeld ?_ ?_;rotate_left
            · rintro w' ⟨s0,s1,s2⟩
              go_simp
              with_reducible rfl
            rotate_left
            · simp only[Act.put,List.setIfInBounds_toArray,List.set_cons_zero,List.set_cons_succ,i64_w,i32_w]
              rfl
            refine pure_ (i:=7) (N:=some 81) (v:= ?_) (a' := ?_) #[true,true,true,true,true,true,true,true,false,false,false,false,false,false,false] rfl rfl (any_of HT_.out (by kernel_rfl)) (fun _ _ _ h=>h) (Or.inl ⟨by rfl,?_⟩) ?_ ?_;rotate_left
            · intro w'
              go_simp
              with_reducible rfl
            rotate_left
            · simp only[Act.put,List.setIfInBounds_toArray,List.set_cons_zero,List.set_cons_succ,i64_w,i32_w]
              rfl
            refine take_ (i:=8) (N:=some 82) (v:= ?_) (a' := ?_) #[true,true,true,true,true,true,true,true,true,false,false,false,false,false,false] rfl rfl (take_ofW HT_.out HW_.out (by kernel_rfl)) (fun _ _ _ h=>h) (Or.inl ⟨by rfl,?_⟩) hHeld ?_ ?_;rotate_left
            · rintro w' ⟨s0,s1,s2⟩
              go_simp
              with_reducible rfl
            rotate_left
            · simp only[Act.put,List.setIfInBounds_toArray,List.set_cons_zero,List.set_cons_succ,i64_w,i32_w]
              rfl
            refine one_ (i:=9) (N:=some 83) #[true,true,true,true,true,true,true,true,true,true,false,false,false,false,false] rfl rfl (one_of HT_.out (by kernel_rfl)) (by decide) (fun K hK=> ?_);refine goes_ Try.func17 (by kernel_rfl) rfl #[.bool (kind==0),vL,.int .i64 x.f2] (by rfl) rfl rfl (by(try simp only[List.map_toArray,List.map_cons,List.map_nil]);first|done|rfl) ?_;refine(Fires_calls HY.out (by have:=HLL5.out.2;omega) x.f2).mono ?_;rintro e w3 ⟨A5,c5,vl,out,left,rfl,ho,hfr,hRo,hRl,hol⟩;refine⟨_,rfl,?_⟩;obtain⟨Al,cl,rfl⟩:=Kd.R_slice hRl;have HFR:=Aside0.mk hfr;have HRO:=Aside0.mk hRo;have HRL:=Aside0.mk hRl;have HO:=Aside0.mk (And.intro ho hol);have HGL:=Aside0.mk (HY.out.io.bound _ HY.out.io.gG);have HB3:Aside0 (w3.heap[B]? =_):=⟨(hfr.block B (lt_of_block HYB.out) (fun m=>HNB.out.2.1 m.1)).trans HYB.out⟩
            have HG3:Aside0 (w3.heap[g]? =_):=⟨(hfr.block g HGL.out.2 (fun m=>m.2 rfl)).trans HY.out.io.at_⟩
            have HW3:Aside0 (w3.heap[w.heap.size]? =_):=⟨(hfr.block _ (lt_of_block HYW.out) (fun m=>by have h1:=(HY.out.io.bound _ m.1).1;have h2:=HWL.out;omega)).trans HYW.out⟩
            clear hfr hRo hRl ho hol;refine hK.out _ _ ⟨(blk_cell HW3.out 0).trans rfl,(blk_cell HG3.out 10).trans rfl,(blk_cell HB3.out 4).trans rfl⟩ (fun hHeld=> ?_);clear hK K;refine norm_ (a' := ?_) ?_ ?_;rotate_left
            · show Act.put _ (some 83) _=_
              simp only[Act.put,List.setIfInBounds_toArray,List.set_cons_zero,List.set_cons_succ,i64_w,i32_w];rfl
            refine pure_ (i:=10) (N:=some 73) (v:= ?_) (a' := ?_) #[true,true,true,true,true,true,true,true,true,true,true,false,false,false,false] rfl rfl (any_of HT_.out (by kernel_rfl)) (fun _ _ _ h=>h) (Or.inl ⟨by rfl,?_⟩) ?_ ?_;rotate_left
            · intro w'
              go_simp
              with_reducible rfl
            rotate_left
            · simp only[Act.put,List.setIfInBounds_toArray,List.set_cons_zero,List.set_cons_succ,i64_w,i32_w]
              rfl
            refine pure_ (i:=11) (N:=some 84) (v:= ?_) (a' := ?_) #[true,true,true,true,true,true,true,true,true,true,true,true,false,false,false] rfl rfl (any_of HT_.out (by kernel_rfl)) (fun _ _ _ h=>h) (Or.inl ⟨by rfl,?_⟩) ?_ ?_;rotate_left
            · intro w'
              go_simp
              with_reducible rfl
            rotate_left
            · simp only[Act.put,List.setIfInBounds_toArray,List.set_cons_zero,List.set_cons_succ,i64_w,i32_w]
              rfl
            refine pure_ (i:=12) (N:=some 85) (v:= ?_) (a' := ?_) #[true,true,true,true,true,true,true,true,true,true,true,true,true,false,false] rfl rfl (any_of HT_.out (by kernel_rfl)) (fun _ _ _ h=>h) (Or.inl ⟨by rfl,?_⟩) ?_ ?_;rotate_left
            · intro w'
              go_simp
              with_reducible rfl
            rotate_left
            · simp only[Act.put,List.setIfInBounds_toArray,List.set_cons_zero,List.set_cons_succ,i64_w,i32_w]
              rfl
            refine pure_ (i:=13) (N:=some 11) (v:= ?_) (a' := ?_) #[true,true,true,true,true,true,true,true,true,true,true,true,true,true,false] rfl rfl (any_of HT_.out (by kernel_rfl)) (fun _ _ _ h=>h) (Or.inl ⟨by rfl,?_⟩) ?_ ?_;rotate_left
            · intro w'
              go_simp
              with_reducible rfl
            rotate_left
            · simp only[Act.put,List.setIfInBounds_toArray,List.set_cons_zero,List.set_cons_succ,i64_w,i32_w]
              rfl
            refine pure_ (i:=14) (N:=some 12) (v:= ?_) (a' := ?_) #[true,true,true,true,true,true,true,true,true,true,true,true,true,true,true] rfl rfl (any_of HT_.out (by kernel_rfl)) (fun _ _ _ h=>h) (Or.inl ⟨by rfl,?_⟩) ?_ ?_;rotate_left
            · intro w'
              go_simp
              with_reducible rfl
            rotate_left
            · simp only[Act.put,List.setIfInBounds_toArray,List.set_cons_zero,List.set_cons_succ,i64_w,i32_w]
              rfl
            refine done_ (done_of HT_.out (by kernel_rfl)) ?_;have c10:=(blk_cell HG3.out 10).trans rfl;have f10:=blk_frozen HG3.out 10;have hB4:=((Fr.setCell (M:=fun k=>k=g) (Fr.refl _ w3) (p:=⟨g,10,none⟩) rfl (.slice Al left.length cl)).block B (lt_of_block HB3.out) HNB.out.2.2.1).trans HB3.out;have by4:=(blk_cell hB4 4).trans rfl;have bx4:=(blk_cell HB3.out 4).trans rfl;have hBg:B≠g:=HNB.out.2.2.1;have hgB:g≠B:=fun e=>hBg e.symm
            have HPS:=Aside0.mk (HY.out.store HFR.out HRL.out);have KF:=Fire_calls HPS.out.hs.is x.f2;clear hB4 hHeld
            go_wp2_with (first
              | (go_at_call 19
                 refine KF.mono ?_;clear KF;rintro e w4 ⟨v4,out',N4,ps4,rfl,hR,hto,hN4,hcase⟩;obtain⟨rfl,hpi4,hl4⟩:=HPI.out.fire HAG.out HO.out.1 hcase;obtain⟨A6,c6',rfl⟩:=Kd.R_slice hR;have HP4:=Aside0.mk (And.intro (HPS.out.toS hto) (And.intro hpi4 (And.intro hN4 hl4)))
                 have hC5:Kd.R k39 39 w4 wd.heap.size (fun _=>True) (.slice A5 out'.length c5) out' :=Kd.R_mono (Kd.R_step (Kd.R_bound (Kd.R_far (p:=⟨g,10,none⟩) HRO.out (fun k hk e=>by
                   rcases hk with hk|hk
                   · exact hk.2 e
                   · have e:k=g:=e
                     have:=HGL.out.2;omega) (.slice Al left.length cl))) (fun k hk hlt=>hto.fr.block k hlt (fun hf=>by
                   rcases hk.1 with h1|h1
                   · exact HY.out.ap k hf h1.1
                   · have:=HY.out.hs.is.bound k hf
                     omega))) (fun _ _=>trivial)
                 obtain⟨kr,hkr⟩:=Th.records_ev out' (by have h1:=HO.out.2;have h2:=HLL5.out.2;omega);have KR:=leathelp_Records.calls kr A6 c6' out' A5 c5 out' true w4 (Kd.R_reads' hR).2.2 (Kd.R_reads' hR).2.1 (Kd.R_reads' hC5).2.2 (Kd.R_reads' hC5).2.1 (hkr kr (Nat.le_refl _));clear hR hto hN4 hcase hpi4 hl4 hC5 hkr)
              | (go_at_call 18
                 refine KR.mono ?_;clear KR;rintro e w5 ⟨rfl,hd5⟩;have HP5:=Aside0.mk (HP4.out.1.below hd5.below);clear hd5)
              |fail)
            go_meet
            case rel=>exact⟨_,_,_,_,_,_,_,_,rfl,⟨⟨HP5.out,HP4.out.2.1,by have h1:=HP4.out.2.2.1;have h2:=HP4.out.2.2.2;have h3:=HPO.out.1;omega,by have h2:=HP4.out.2.2.2;have h3:=HPO.out.2;omega⟩⟩⟩
          have b4:(x.f0==4)=false:=by simpa using c4
          clear c4;by_cases c5:x.f0=5
          · have b5:(x.f0==5)=true:=by simpa using c5
            clear c5
            go_wp2_with (first
              | (go_at_call 21
                 refine(Panes_calls HQX.out.hs.is).mono ?_;rintro e w2 ⟨v2,rfl,hR2,hb2⟩;have hR2:Kd.R k70 70 w2 wx.heap.size (fun _=>True) v2 (sortP ps):=hR2;obtain⟨A2,c2,rfl⟩:=Kd.R_slice hR2;have KL:=LoadP_calls HQX.out HAG.out HPI.out w2 hb2 A2 c2 hR2 (by have:=HLL5.out.1;omega);clear hR2 hb2)
              | (go_at_call 20
                 refine KL.mono ?_;clear KL;rintro e w3 ⟨rfl,F3,N3,ps3,hpw,hpi,hN3,hl3⟩;have HP3:=Aside0.mk (And.intro hpw (And.intro hpi (And.intro hN3 hl3)));clear hpw hpi hN3 hl3)
              |fail)
            go_meet
            case rel=>exact⟨_,_,_,_,_,_,_,_,rfl,⟨⟨HP3.out.1,HP3.out.2.1,by have h1:=HP3.out.2.2.1;have h2:=HP3.out.2.2.2;have h3:=HLL5.out.1;omega,by have h2:=HP3.out.2.2.2;have h3:=HPO.out.2;omega⟩⟩⟩
          have b5:(x.f0==5)=false:=by simpa using c5
          clear c5;by_cases c6:x.f0=6
          · have b6:(x.f0==6)=true:=by simpa using c6
            clear c6;go_wp2_with fail;have HY:=Aside0.mk (HQX.out.below (below_drew (Below.refl _ _)));have HYW:Aside0 (wx.drew.heap[w.heap.size]? =some (.cells #[.int .i64 kind,.int .i64 size,.int .i64 slide] 23 (0,0))):=⟨(HQX.out.hs.bl.block _ HWL.out).trans HWD.out⟩
            refine start_ (n:=10) (S:=fun w'=>w'.cell? ⟨w.heap.size,0,none⟩=some (.int .i64 kind)∧w'.cell? ⟨w.heap.size,1,none⟩=some (.int .i64 size)∧w'.cell? ⟨w.heap.size,2,none⟩=some (.int .i64 slide)) (ds:=[]) #[false,false,false,false,false,false,false,false,false,false] (by kernel_rfl) rfl rfl ⟨(blk_cell HYW.out 0).trans rfl,(blk_cell HYW.out 1).trans rfl,(blk_cell HYW.out 2).trans rfl⟩ (fun hHeld=> ?_);refine with_tabW Tpl.tab28 Tpl.bits28 (fun HT_ HW_=> ?_);generalize hwy:World.drew wx=wy at HY HYW hHeld ⊢;clear hwy;refine take_ (i:=0) (N:=some 106) (v:= ?_) (a' := ?_) #[true,false,false,false,false,false,false,false,false,false] rfl rfl (take_ofW HT_.out HW_.out (by kernel_rfl)) (fun _ _ _ h=>h) (Or.inl ⟨by rfl,?_⟩) hHeld ?_ ?_;rotate_left
            · rintro w' ⟨s0,s1,s2⟩
              go_simp
              with_reducible rfl
            rotate_left
            · simp only[Act.put,List.setIfInBounds_toArray,List.set_cons_zero,List.set_cons_succ,i64_w,i32_w]
              rfl
            refine pure_ (i:=1) (N:=some 107) (v:= ?_) (a' := ?_) #[true,true,false,false,false,false,false,false,false,false] rfl rfl (any_of HT_.out (by kernel_rfl)) (fun _ _ _ h=>h) (Or.inl ⟨by rfl,?_⟩) ?_ ?_;rotate_left
            · intro w'
              go_simp
              with_reducible rfl
            rotate_left
            · simp only[Act.put,List.setIfInBounds_toArray,List.set_cons_zero,List.set_cons_succ,i64_w,i32_w]
              rfl
            refine pure_ (i:=2) (N:=some 108) (v:= ?_) (a' := ?_) #[true,true,true,false,false,false,false,false,false,false] rfl rfl (any_of HT_.out (by kernel_rfl)) (fun _ _ _ h=>h) (Or.inl ⟨by rfl,?_⟩) ?_ ?_;rotate_left
            · intro w'
              go_simp
              with_reducible rfl
            rotate_left
            · simp only[Act.put,List.setIfInBounds_toArray,List.set_cons_zero,List.set_cons_succ,i64_w,i32_w]
              rfl
            refine one_ (i:=3) (N:=some 109) #[true,true,true,true,false,false,false,false,false,false] rfl rfl (one_of HT_.out (by kernel_rfl)) (by decide) (fun K hK=> ?_);refine goes_ Try.func23 (by kernel_rfl) rfl #[.pointer (some ⟨q,0,none⟩)] (by rfl) rfl rfl (by(try simp only[List.map_toArray,List.map_cons,List.map_nil]);first|done|rfl) ?_;refine(Bytes_calls HY.out.hs.is).mono ?_;rintro e w3 ⟨v7,rfl,hR7,hb7⟩;refine⟨_,rfl,?_⟩;have hR7:Kd.R (Kd.int .u8) 5 w3 wy.heap.size (fun _=>True) v7 (bytesB (sortP ps)):=hR7;obtain⟨A7,c7,rfl⟩:=Kd.R_slice hR7;have HOO:=Aside0.mk (open_own HAG.out HPI.out.nk HPI.out.prp (fun p hp=>HY.out.hs.is.p64 p hp));have HBL:Aside0 ((bytesB (sortP ps)).length≤163844):=⟨by rw[bytesB_len,sortP_len];have:=HLL5.out.1;omega⟩
            have KO:=OpenP_calls w3 kind size slide a A7 c7 (bytesB (sortP ps)) (Kd.R_reads' hR7).2.2 (Kd.R_reads' hR7).2.1 (by have:=HBL.out;omega) (bytesB_8 _) HOO.out.1;have HW3:=Aside0.mk (blk_below HYW.out hb7);have HP3:=Aside0.mk (HY.out.below hb7);clear hR7 hb7;refine hK.out _ _ ⟨(blk_cell HW3.out 0).trans rfl,(blk_cell HW3.out 1).trans rfl,(blk_cell HW3.out 2).trans rfl⟩ (fun hHeld=> ?_);clear hK K;refine norm_ (a' := ?_) ?_ ?_;rotate_left
            · show Act.put _ (some 109) _=_
              simp only[Act.put,List.setIfInBounds_toArray,List.set_cons_zero,List.set_cons_succ,i64_w,i32_w];rfl
            refine one_ (i:=4) (N:=some 110) #[true,true,true,true,true,false,false,false,false,false] rfl rfl (one_of HT_.out (by kernel_rfl)) (by decide) (fun K hK=> ?_);refine goes_ Try.func22 (by kernel_rfl) rfl #[aggW kind size slide,.int .i64 a,.slice A7 (bytesB (sortP ps)).length c7] (by rfl) rfl rfl (by(try simp only[List.map_toArray,List.map_cons,List.map_nil]);first|done|rfl) ?_;refine(KO).mono ?_;rintro e w4 ⟨q4,N4,rfl,hb4,hN4,hI4⟩;refine⟨_,rfl,?_⟩;have HW4:=Aside0.mk (blk_below HW3.out hb4);have HP4:=Aside0.mk (And.intro (HP3.out.newS hb4 hI4) hN4);clear hb4 hI4 hN4;refine hK.out _ _ ⟨(blk_cell HW4.out 0).trans rfl,(blk_cell HW4.out 1).trans rfl,(blk_cell HW4.out 2).trans rfl⟩ (fun hHeld=> ?_);clear hK K;refine norm_ (a' := ?_) ?_ ?_;rotate_left
            · show Act.put _ (some 110) _=_
              simp only[Act.put,List.setIfInBounds_toArray,List.set_cons_zero,List.set_cons_succ,i64_w,i32_w];rfl
            refine pure_ (i:=5) (N:=some 105) (v:= ?_) (a' := ?_) #[true,true,true,true,true,true,false,false,false,false] rfl rfl (any_of HT_.out (by kernel_rfl)) (fun _ _ _ h=>h) (Or.inl ⟨by rfl,?_⟩) ?_ ?_;rotate_left
            · intro w'
              go_simp
              with_reducible rfl
            rotate_left
            · simp only[Act.put,List.setIfInBounds_toArray,List.set_cons_zero,List.set_cons_succ,i64_w,i32_w]
              rfl
            refine pure_ (i:=6) (N:=some 111) (v:= ?_) (a' := ?_) #[true,true,true,true,true,true,true,false,false,false] rfl rfl (any_of HT_.out (by kernel_rfl)) (fun _ _ _ h=>h) (Or.inl ⟨by rfl,?_⟩) ?_ ?_;rotate_left
            · intro w'
              go_simp
              with_reducible rfl
            rotate_left
            · simp only[Act.put,List.setIfInBounds_toArray,List.set_cons_zero,List.set_cons_succ,i64_w,i32_w]
              rfl
            refine pure_ (i:=7) (N:=some 112) (v:= ?_) (a' := ?_) #[true,true,true,true,true,true,true,true,false,false] rfl rfl (any_of HT_.out (by kernel_rfl)) (fun _ _ _ h=>h) (Or.inl ⟨by rfl,?_⟩) ?_ ?_;rotate_left
            · intro w'
              go_simp
              with_reducible rfl
            rotate_left
            · simp only[Act.put,List.setIfInBounds_toArray,List.set_cons_zero,List.set_cons_succ,i64_w,i32_w]
              rfl
            refine pure_ (i:=8) (N:=some 13) (v:= ?_) (a' := ?_) #[true,true,true,true,true,true,true,true,true,false] rfl rfl (any_of HT_.out (by kernel_rfl)) (fun _ _ _ h=>h) (Or.inl ⟨by rfl,?_⟩) ?_ ?_;rotate_left
            · intro w'
              go_simp
              with_reducible rfl
            rotate_left
            · simp only[Act.put,List.setIfInBounds_toArray,List.set_cons_zero,List.set_cons_succ,i64_w,i32_w]
              rfl
            refine pure_ (i:=9) (N:=some 14) (v:= ?_) (a' := ?_) #[true,true,true,true,true,true,true,true,true,true] rfl rfl (any_of HT_.out (by kernel_rfl)) (fun _ _ _ h=>h) (Or.inl ⟨by rfl,?_⟩) ?_ ?_;rotate_left
            · intro w'
              go_simp
              with_reducible rfl
            rotate_left
            · simp only[Act.put,List.setIfInBounds_toArray,List.set_cons_zero,List.set_cons_succ,i64_w,i32_w]
              rfl
            refine done_ (done_of HT_.out (by kernel_rfl)) ?_;clear KO hHeld;go_wp2_with fail;go_meet
            case rel=>exact⟨_,_,_,_,_,_,_,_,rfl,⟨⟨HP4.out.1,HPI.out.same HAG.out HOO.out.2,by have h1:=HP4.out.2;have h2:=HBL.out;have h3:=HOO.out.2.length_eq;have h4:=HLL5.out.1;omega,by have h3:=HOO.out.2.length_eq;have h4:=HPO.out.2;omega⟩⟩⟩
          have b6:(x.f0==6)=false:=by simpa using c6
          clear c6;go_wp2_with fail;go_meet
          case rel=>exact⟨_,_,_,_,_,_,_,_,rfl,⟨⟨HQX.out,HPI.out,by have h2:=HPO.out.1;omega,by have h2:=HPO.out.2;omega⟩⟩⟩
      case rest=>
        obtain⟨q,F,N,G,vL,ps,L,mark,rfl,HR⟩:=hcut;clear HQ HQX HBX HNB HPI HPO
        rename World=>wc
        obtain⟨AL,cL,rfl⟩:=Kd.R_slice HR.out.pw.io.row;have hBL:Below w.heap.size w wc:=HBW.out.trans (HR.out.pw.hs.bl.mono HBW.out.size);have HBC:=Aside0.mk hBL;have xL:=(blk_cell HR.out.pw.io.at_ 10).trans rfl;obtain⟨T,hT⟩: ∃T,sortP ps=T:=⟨_,rfl⟩
        have HTE:=Aside0.mk hT;have HTL:Aside0 (sortP L=T):=⟨by rw[←hT];exact HR.out.pi.sort.symm⟩
        have HLN:Aside0 (ps.length=T.length):=⟨by rw[←hT,sortP_len]⟩
        have HT5:Aside0 (T.length≤5120):=⟨by have h1:=HLN.out;have h2:=HR.out.len;have h3:=HI80.out;omega⟩
        have HL5:Aside0 (L.length≤5120):=⟨by rw[←HR.out.pi.perm.length_eq];have h1:=HLN.out;have h2:=HT5.out;omega⟩
        have hqn:((T.length:Int) !=(T.length:Int))=false:=by simp
        have KS:Calls Try.prog 24 #[.slice AL L.length cL] wc fun e w'=> ∃A c,e= .returned (.slice A T.length c)∧Kd.R k70 70 w' wc.heap.size (fun _=>True) (.slice A T.length c) T∧Below wc.heap.size wc w' :=by
          obtain⟨ks,hks⟩:=Th.rsort_ev L (by have:=HL5.out;omega);rw[HTL.out] at hks;refine(leatref11_Sort.calls ks AL cL L T wc (Kd.R_reads' HR.out.pw.io.row).2.2 (Kd.R_reads' HR.out.pw.io.row).2.1 (hks ks (Nat.le_refl _))).mono ?_;rintro e w' ⟨v,rfl,hR,hb⟩;obtain⟨A,c,rfl⟩:=Kd.R_slice hR;exact⟨A,c,rfl,hR,hb⟩
        clear hBL hT
        go_wp2_with (first
          | (go_at_call 24
             refine KS.mono ?_;clear KS;rintro e w2 ⟨A2,c2,rfl,hR2,hb2⟩;have HR2:=Aside0.mk hR2;have HB2:=Aside0.mk hb2;clear hR2 hb2)
          | (go_at_call 21
             refine(Panes_calls (HR.out.pw.hs.is.below HB2.out)).mono ?_;rintro e w3 ⟨v3,rfl,hR3,hb3⟩;have hR3:Kd.R k70 70 w3 w2.heap.size (fun _=>True) v3 (sortP ps):=hR3;rw[HTE.out] at hR3;obtain⟨A3',c3',rfl⟩:=Kd.R_slice hR3;have HR3:=Aside0.mk hR3;have HR23:=Aside0.mk (Kd.R_below HR2.out hb3);have HB3:=Aside0.mk (HB2.out.trans (hb3.mono HB2.out.size));clear hR3 hb3)
          | (go_at_call 25
             obtain⟨kp,hkp⟩:=Th.panes_ev T (by have:=HT5.out;omega);refine(leathelp_Panes.calls kp A3' c3' T A2 c2 T true w3 (Kd.R_reads' HR3.out).2.2 (Kd.R_reads' HR3.out).2.1 (Kd.R_reads' HR23.out).2.2 (Kd.R_reads' HR23.out).2.1 (hkp kp (Nat.le_refl _))).mono ?_;rintro e w4 ⟨rfl,hd4⟩;have HR24:=Aside0.mk (Kd.R_below HR23.out hd4.below);have HB4:=Aside0.mk (HB3.out.trans (hd4.below.mono HB3.out.size));have KL:=Len_st (HR.out.pw.hs.is.below HB4.out);have KL:Calls Try.prog 26 #[.pointer (some ⟨q,0,none⟩)] w4 fun e w'=>e= .returned (.int .i64 (ps.length:Int))∧w'=w4:=KL
             rw[HLN.out] at KL;have KB:=Bytes_calls (HR.out.pw.hs.is.below HB4.out);clear hd4 hkp)
          | (go_at_call 26
             refine KL.mono ?_;clear KL;rintro e w5 ⟨rfl,rfl⟩)
          | (go_at_call 23
             refine KB.mono ?_;clear KB;rintro e w6 ⟨v6,rfl,hR6,hb6⟩;have hR6:Kd.R (Kd.int .u8) 5 w6 w5.heap.size (fun _=>True) v6 (bytesB (sortP ps)):=hR6;rw[HTE.out] at hR6;obtain⟨A6,c6,rfl⟩:=Kd.R_slice hR6;have HR6:=Aside0.mk hR6;have HR26:=Aside0.mk (Kd.R_below HR24.out hb6);have HB6:=Aside0.mk (HB4.out.trans (hb6.mono HB4.out.size));clear hR6 hb6)
          | (go_at_call 28
             obtain⟨kb,hkb⟩:=bytes_ev T (by have:=HT5.out;omega);refine(leatlaw12_bytes.calls kb A2 c2 T (bytesB T) w6 (Kd.R_reads' HR26.out).2.2 (Kd.R_reads' HR26.out).2.1 (hkb kb (Nat.le_refl _))).mono ?_;rintro e w7 ⟨v7,rfl,hR7,hb7⟩;obtain⟨A7,c7,rfl⟩:=Kd.R_slice hR7;have HR27:=Aside0.mk (Kd.R_below HR26.out hb7);have KE:=bytesEq_any (Kd.C_below (Kd.R_reads' HR6.out).2.2 hb7) (Kd.R_reads' HR6.out).2.1 (Kd.R_reads' hR7).2.2 (Kd.R_reads' hR7).2.1 (by rw[bytesB_len];have:=HT5.out;omega);have HB7:=Aside0.mk (HB6.out.trans (hb7.mono HB6.out.size));clear hR7 hb7 hkb)
          | (go_at_call 27
             refine KE.mono ?_;clear KE;rintro e w8 ⟨rfl,hb8⟩;have HR28:=Aside0.mk (Kd.R_below HR27.out hb8);have HB8:=Aside0.mk (HB7.out.trans (hb8.mono HB7.out.size));clear hb8)
          | (go_at_call 29
             refine(Next_calls (HR.out.pw.hs.is.below HB8.out)).mono ?_;rintro e w9 ⟨t,b,rfl,hn,hto⟩;have HTO:=Aside0.mk hto;have HC9:Aside0 (Kd.C k70 w9 A2 T.length T):=⟨(Kd.R_reads' (Kd.R_step (Kd.R_bound HR28.out) (fun k hk hlt=>hto.fr.block k hlt (fun hf=>by have:=HR.out.pw.hs.is.bound k hf;have:=hk.2.1;omega)))).2.2⟩
             have hn2:=next4 hn HTE.out (fun p hp=>HR.out.pw.hs.is.p64 p hp);clear hto hn)
          |fail)
        clear hqn;go_loopg [18,19] T.length (fun kx s18 s19 wi=> ∃(j:Nat),s18= .int .i64 (leastT (T.take j))∧s19= .int .i64 j∧T.length-j≤kx∧j≤T.length∧w9=wi)
        case atStart=>exact⟨0,by simp[leastT],rfl,by omega,by omega,rfl⟩
        case round=>
          obtain⟨j,rfl,rfl,hkj,hj,rfl⟩:=hrel;by_cases hlt:j<T.length
          · have hlz:((j:Int)<(T.length:Int)):=by omega
            have hiz:(0:Int)≤(j:Int):=by omega
            obtain⟨ad,rfl,x0,x1,x2,x3⟩:=at_T70 HC9.out (j:Int) hiz hlz;obtain⟨z,hz⟩: ∃z:S70,T[j]=z:=⟨_,rfl⟩
            have hgd:rd_T70 T (j:Int)=z:=by rw[←hz];simp[rd_T70,hlt]
            rw[hgd] at x0 x1 x2 x3;have hin:((j:Int)).toNat=j:=by omega
            rw[hin] at x0 x1 x2 x3;have hwj:wrap64 ((j:Int)+1)=((j+1:Nat):Int):=by have:=HT5.out;unfold wrap64;omega
            have hsn:mn (leastT (T.take j)) (wrap64 (z.f1.f1-1))=leastT (T.take (j+1)):=by
              rw[←List.take_append_getElem hlt,hz,least_snoc];rfl
            have HJ1:=Aside0.mk (And.intro hkj (And.intro hj hlt));clear hkj hj hlt hz hgd hin;go_wp2_with fail
            try rw[hwj]
            try rw[hsn]
            go_roundg (T.length- (j+1))
            case measure=>have:=HJ1.out;omega
            case rel=>exact⟨j+1,rfl,rfl,Nat.le_refl _,HJ1.out.2.2,rfl⟩
          · have hlz: ¬((j:Int)<(T.length:Int)):=by omega
            have hjl:T.take j=T:=List.take_of_length_le (by omega);rw[hjl];have HPJ:Aside0 (Pj wd kind size slide a (Fx F w8 w9) N G w9 q g v1 v5 (.slice AL L.length cL) ps L mark (i+1)):=⟨⟨(HR.out.pw.below HB8.out).toS HTO.out,HR.out.pi,HR.out.pot,HR.out.len⟩⟩
            clear hkj hj hlt hjl;rcases hn2 with ⟨rfl,rfl,h0⟩|⟨rfl,h0,hle⟩
            · have hT0:T=[]:=List.eq_nil_of_length_eq_zero h0
              clear h0;subst hT0;go_wp2_with fail
              try rw[hwi]
              go_roundg (l.length- (i+1))
              case measure=>have:=HI1.out;omega
              case rel=>exact⟨i+1,_,_,_,_,_,_,_,_,rfl,rfl,Nat.le_refl _,HI1.out.2.2,HPJ⟩
            · have hd:decide (0<T.length)=true:=decide_eq_true h0
              have hne: ¬T=[]:=fun e=>by rw[e] at h0;simp at h0
              rw[hle];have htt:(t !=t)=false:=by simp
              clear hle;go_wp2_with fail
              try rw[hwi]
              go_roundg (l.length- (i+1))
              case measure=>have:=HI1.out;omega
              case rel=>exact⟨i+1,_,_,_,_,_,_,_,_,rfl,rfl,Nat.le_refl _,HI1.out.2.2,HPJ⟩
    · have hlz: ¬((i:Int)<(l.length:Int)):=by omega
      clear hkx hi hlt;go_wp2_with fail;go_ret;exact⟨rfl,HBR.out⟩
end Go.Proofs.Ytjegeghigfmkoaa.T
namespace Go.Proofs.Ytjegeghigfmkoaa.X
open Go.RowKit Go.Proofs Go.Proofs.YtjegeghigfmkoaaW.PrintWords
set_option linter.unusedVariables false
open Classical in
noncomputable def leatlaw12_StatePlays.f (a0_0 a0_1 a0_2 a1:Int) (l2:List S41):Option Bool:=if ∀x ∈ l2,(T.I64 x.f1.f0∧T.I64 x.f1.f2)∧T.I64 x.f2 then some true else none
theorem leatlaw12_StatePlays.calls (a0_0 a0_1 a0_2 a1:Int) (A2:Option Addr) (c2:Nat) (l2:List S41) (r:Bool) (w:World) (hr2:Kd.C k41 w A2 l2.length l2) (hc2:l2.length≤c2) (h:leatlaw12_StatePlays.f a0_0 a0_1 a0_2 a1 l2=some r):
  Calls Try.prog 3 #[.agg #[.int .i64 a0_0,.int .i64 a0_1,.int .i64 a0_2],.int .i64 a1,.slice A2 l2.length c2] w fun e w'=>e= .returned (.bool r)∧Below w.heap.size w w' :=by
 unfold leatlaw12_StatePlays.f at h;split at h
 ·rename_i hc;cases h;exact T.StatePlays_calls w a0_0 a0_1 a0_2 a1 A2 c2 l2 ⟨fun W hb=>Kd.C_below hr2 hb,hc⟩ hc2
 ·cases h
end Go.Proofs.Ytjegeghigfmkoaa.X
