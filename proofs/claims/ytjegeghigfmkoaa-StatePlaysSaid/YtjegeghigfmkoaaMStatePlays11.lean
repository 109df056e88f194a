/- Proofs towards the law StatePlays, joined into one text. No conditions beyond those typed. -/
import Derived.Test.YtjegeghigfmkoaaProg
import Derived.Below
import Derived.Deep.Draws
import Derived.Deep.AppendLies
import Derived.Maps.AppendAt
import Derived.OwnWalk
import Derived.Laws.BytesArg
import Derived.Laws.MakeOwn
import Derived.Laws.OwnMore
import Derived.Deep.OwnRows
import Derived.Tactics
import Derived.Lib.ConvBytes
import Derived.Laws.Slices
import Derived.WalkKit
import Derived.KernelRfl
import Derived.RowKit3
import Derived.Deep.LoopGhost
import Derived.Deep.QuietTactic
import Derived.BigQuiet
import Derived.WideLaws
import Derived.Deep.DeepCutAuto
import Derived.Deep.CutBlock
import Derived.Deep.RegionHeld3
import Derived.Laws.Rows
import Derived.Lib.AppendStr
import Derived.ArgAppend
import Derived.Laws.IdiomCopy
import Derived.OrdersHeld
import Derived.Laws.BitsLemmas
import Derived.RowKit
import Derived.Test.YtjegeghigfmkoaaMStatePlays0
import Derived.Test.YtjegeghigfmkoaaMStatePlays1
import Derived.Test.YtjegeghigfmkoaaMStatePlays2
import Derived.Test.YtjegeghigfmkoaaMStatePlays10
namespace Go.Proofs.Ytjegeghigfmkoaa.X
open Go.RowKit Go.Proofs.YtjegeghigfmkoaaW.PrintWords Go.Proofs.YtjegeghigfmkoaaW.PrintLast Go.Proofs.YtjegeghigfmkoaaW.PrintMore
attribute [local go_sem] max2_int min2_int max_two min_two max_three min_three max_four min_four   -- for this text's walks alone
set_option linter.unusedVariables false
set_option linter.unusedSimpArgs false
def errW:Option Int→Value
 |none=> .nilIface
 |some c=> .iface 0 (.int .i64 c)
theorem errW_none:errW none= .nilIface:=rfl
theorem errW_some (c:Int):errW (some c)= .iface 0 (.int .i64 c):=rfl
theorem info5:(Try.prog.info? 5).map (fun i=>(i.zero,i.size,i.bytes))=some (some (.int .u8 0),1,1):=by kernel_rfl
theorem info39:(Try.prog.info? 39).map (fun i=>(i.zero,i.size,i.bytes))=some (some (.agg #[(.int .i64 0),(.int .i64 0),(.int .i64 0)]),3,24):=by kernel_rfl
theorem info68:(Try.prog.info? 68).map (fun i=>(i.zero,i.size,i.bytes))=some (some (.agg #[(.int .i64 0),(.int .i64 0)]),2,16):=by kernel_rfl
theorem info70:(Try.prog.info? 70).map (fun i=>(i.zero,i.size,i.bytes))=some (some (.agg #[(.int .i64 0),(.int .i64 0),(.int .i64 0),(.int .i64 0)]),4,32):=by kernel_rfl
structure S68 where
 f0:Int
 f1:Int
def z68:S68:=⟨(0:Int),(0:Int)⟩
def k68:Kd S68:=Kd.iso (Kd.pair (Kd.int .i64) (Kd.int .i64)) (fun x:S68=>(x.f0,x.f1))
theorem k68_open {w:World} {x:S68} {cs:List Value} (h:k68.K w x cs):cs=[.int .i64 x.f0,.int .i64 x.f1]:=by
 obtain⟨_,_,rfl,rfl,rfl⟩:=h;exact rfl
theorem k68_openM {w:World} {base:Nat} {ok:Nat→Prop} {x:S68} {cs:List Value} (h:k68.M w base ok x cs):cs=[.int .i64 x.f0,.int .i64 x.f1]:=by
 obtain⟨_,_,rfl,rfl,rfl⟩:=h;exact rfl
theorem k68_mkM (w:World) (base:Nat) (ok:Nat→Prop) (x:S68):k68.M w base ok x [.int .i64 x.f0,.int .i64 x.f1]:=⟨[.int .i64 x.f0],[.int .i64 x.f1],rfl,rfl,rfl⟩
def rd_T68 (xs:List S68) (i:Int):S68:=xs.getD i.toNat z68
theorem at_T68 {w:World} {A:Option Addr} {n:Nat} {xs:List S68} (h:Kd.C k68 w A n xs) (i:Int) (h0:0≤i) (h1:i<n): ∃ad,A=some ad∧w.cell? (ad.add (i.toNat*2))=some (.int .i64 (rd_T68 xs i).f0)∧w.cell? ⟨(ad.add (i.toNat*2)).block,(ad.add (i.toNat*2)).off+1,none⟩=some (.int .i64 (rd_T68 xs i).f1):=by
 obtain⟨ad,c,e,_,hK,hc0⟩:=Kd.C_get h z68 i h0 h1;have hc: ∀j u,c[j]? =some u→w.cell? (ad.add (i.toNat*2+j))=some u:=hc0;obtain rfl:=k68_open hK;exact⟨ad,e,hc 0 _ rfl,by rw[←add_field _ _ 1 (by omega)];exact hc 1 _ rfl⟩
structure S39 where
 f0:Int
 f1:Int
 f2:Int
def z39:S39:=⟨(0:Int),(0:Int),(0:Int)⟩
def k39:Kd S39:=Kd.iso (Kd.pair (Kd.int .i64) (Kd.pair (Kd.int .i64) (Kd.int .i64))) (fun x:S39=>(x.f0,x.f1,x.f2))
theorem k39_open {w:World} {x:S39} {cs:List Value} (h:k39.K w x cs):cs=[.int .i64 x.f0,.int .i64 x.f1,.int .i64 x.f2]:=by
 obtain⟨_,_,rfl,rfl,⟨_,_,rfl,rfl,rfl⟩⟩:=h;exact rfl
theorem k39_mkM (w:World) (base:Nat) (ok:Nat→Prop) (x:S39):k39.M w base ok x [.int .i64 x.f0,.int .i64 x.f1,.int .i64 x.f2]:=⟨[.int .i64 x.f0],[.int .i64 x.f1,.int .i64 x.f2],rfl,rfl,⟨[.int .i64 x.f1],[.int .i64 x.f2],rfl,rfl,rfl⟩⟩
def rd_T39 (xs:List S39) (i:Int):S39:=xs.getD i.toNat z39
theorem at_T39 {w:World} {A:Option Addr} {n:Nat} {xs:List S39} (h:Kd.C k39 w A n xs) (i:Int) (h0:0≤i) (h1:i<n): ∃ad,A=some ad∧w.cell? (ad.add (i.toNat*3))=some (.int .i64 (rd_T39 xs i).f0)∧w.cell? ⟨(ad.add (i.toNat*3)).block,(ad.add (i.toNat*3)).off+1,none⟩=some (.int .i64 (rd_T39 xs i).f1)∧w.cell? ⟨(ad.add (i.toNat*3)).block,(ad.add (i.toNat*3)).off+2,none⟩=some (.int .i64 (rd_T39 xs i).f2):=by
 obtain⟨ad,c,e,_,hK,hc0⟩:=Kd.C_get h z39 i h0 h1;have hc: ∀j u,c[j]? =some u→w.cell? (ad.add (i.toNat*3+j))=some u:=hc0;obtain rfl:=k39_open hK;exact⟨ad,e,hc 0 _ rfl,by rw[←add_field _ _ 1 (by omega)];exact hc 1 _ rfl,by rw[←add_field _ _ 2 (by omega)];exact hc 2 _ rfl⟩
structure S70 where
 f0:Int
 f1:S68
 f2:Int
def z70:S70:=⟨(0:Int),z68,(0:Int)⟩
def k70:Kd S70:=Kd.iso (Kd.pair (Kd.int .i64) (Kd.pair k68 (Kd.int .i64))) (fun x:S70=>(x.f0,x.f1,x.f2))
theorem k70_open {w:World} {x:S70} {cs:List Value} (h:k70.K w x cs):cs=[.int .i64 x.f0,.int .i64 x.f1.f0,.int .i64 x.f1.f1,.int .i64 x.f2]:=by
 obtain⟨_,_,rfl,rfl,⟨_,_,rfl,s1,rfl⟩⟩:=h;obtain rfl:=k68_open s1;exact rfl
theorem k70_openM {w:World} {base:Nat} {ok:Nat→Prop} {x:S70} {cs:List Value} (h:k70.M w base ok x cs):cs=[.int .i64 x.f0,.int .i64 x.f1.f0,.int .i64 x.f1.f1,.int .i64 x.f2]:=by
 obtain⟨_,_,rfl,rfl,⟨_,_,rfl,s1,rfl⟩⟩:=h;obtain rfl:=k68_openM s1;exact rfl
theorem k70_mkM (w:World) (base:Nat) (ok:Nat→Prop) (x:S70):k70.M w base ok x [.int .i64 x.f0,.int .i64 x.f1.f0,.int .i64 x.f1.f1,.int .i64 x.f2]:=⟨[.int .i64 x.f0],[.int .i64 x.f1.f0,.int .i64 x.f1.f1,.int .i64 x.f2],rfl,rfl,⟨[.int .i64 x.f1.f0,.int .i64 x.f1.f1],[.int .i64 x.f2],rfl,(k68_mkM w base ok x.f1),rfl⟩⟩
def rd_T70 (xs:List S70) (i:Int):S70:=xs.getD i.toNat z70
theorem at_T70 {w:World} {A:Option Addr} {n:Nat} {xs:List S70} (h:Kd.C k70 w A n xs) (i:Int) (h0:0≤i) (h1:i<n): ∃ad,A=some ad∧w.cell? (ad.add (i.toNat*4))=some (.int .i64 (rd_T70 xs i).f0)∧w.cell? ⟨(ad.add (i.toNat*4)).block,(ad.add (i.toNat*4)).off+1,none⟩=some (.int .i64 (rd_T70 xs i).f1.f0)∧w.cell? ⟨(ad.add (i.toNat*4)).block,(ad.add (i.toNat*4)).off+2,none⟩=some (.int .i64 (rd_T70 xs i).f1.f1)∧w.cell? ⟨(ad.add (i.toNat*4)).block,(ad.add (i.toNat*4)).off+3,none⟩=some (.int .i64 (rd_T70 xs i).f2):=by
 obtain⟨ad,c,e,_,hK,hc0⟩:=Kd.C_get h z70 i h0 h1;have hc: ∀j u,c[j]? =some u→w.cell? (ad.add (i.toNat*4+j))=some u:=hc0;obtain rfl:=k70_open hK;exact⟨ad,e,hc 0 _ rfl,by rw[←add_field _ _ 1 (by omega)];exact hc 1 _ rfl,by rw[←add_field _ _ 2 (by omega)];exact hc 2 _ rfl,by rw[←add_field _ _ 3 (by omega)];exact hc 3 _ rfl⟩
structure S34 where
 f0:Int
 f1:Int
 f2:(List S34)
def F34 (d:Kd S34):Kd S34:=Kd.iso (Kd.pair (Kd.int .i64) (Kd.pair (Kd.int .i64) (Kd.slice 34 d))) (fun x:S34=>(x.f0,x.f1,x.f2))
theorem sub34:Kd.Sub F34 [34]:=Kd.sub_iso _ (Kd.sub_pair (Kd.sub_const _ (by decide)) (Kd.sub_pair (Kd.sub_const _ (by decide)) (Kd.sub_slice 34 (by decide) Kd.sub_id)))
theorem sz34: ∀n,(Kd.upto F34 3 [34] n).sz=3:=Kd.upto_sz (fun _=>rfl)
def k34:Kd S34:=Kd.fix F34 3 [34] sz34 (Kd.upto_E sub34)
end Go.Proofs.Ytjegeghigfmkoaa.X
namespace Go.Proofs.Ytjegeghigfmkoaa.X
open Go.RowKit Go.Proofs.YtjegeghigfmkoaaW.PrintWords
set_option linter.unusedVariables false
structure S41 where
 f0:Int
 f1:S39
 f2:Int
def z41:S41:=⟨(0:Int),z39,(0:Int)⟩
def k41:Kd S41:=Kd.iso (Kd.pair (Kd.int .i64) (Kd.pair k39 (Kd.int .i64))) (fun x:S41=>(x.f0,x.f1,x.f2))
theorem k41_open {w:World} {x:S41} {cs:List Value} (h:k41.K w x cs):cs=[.int .i64 x.f0,.int .i64 x.f1.f0,.int .i64 x.f1.f1,.int .i64 x.f1.f2,.int .i64 x.f2]:=by
 obtain⟨_,_,rfl,rfl,⟨_,_,rfl,s1,rfl⟩⟩:=h;obtain rfl:=k39_open s1;exact rfl
def rd_T41 (xs:List S41) (i:Int):S41:=xs.getD i.toNat z41
theorem at_T41 {w:World} {A:Option Addr} {n:Nat} {xs:List S41} (h:Kd.C k41 w A n xs) (i:Int) (h0:0≤i) (h1:i<n): ∃ad,A=some ad∧w.cell? (ad.add (i.toNat*5))=some (.int .i64 (rd_T41 xs i).f0)∧w.cell? ⟨(ad.add (i.toNat*5)).block,(ad.add (i.toNat*5)).off+1,none⟩=some (.int .i64 (rd_T41 xs i).f1.f0)∧w.cell? ⟨(ad.add (i.toNat*5)).block,(ad.add (i.toNat*5)).off+2,none⟩=some (.int .i64 (rd_T41 xs i).f1.f1)∧w.cell? ⟨(ad.add (i.toNat*5)).block,(ad.add (i.toNat*5)).off+3,none⟩=some (.int .i64 (rd_T41 xs i).f1.f2)∧w.cell? ⟨(ad.add (i.toNat*5)).block,(ad.add (i.toNat*5)).off+4,none⟩=some (.int .i64 (rd_T41 xs i).f2):=by
 obtain⟨ad,c,e,_,hK,hc0⟩:=Kd.C_get h z41 i h0 h1;have hc: ∀j u,c[j]? =some u→w.cell? (ad.add (i.toNat*5+j))=some u:=hc0;obtain rfl:=k41_open hK;exact⟨ad,e,hc 0 _ rfl,by rw[←add_field _ _ 1 (by omega)];exact hc 1 _ rfl,by rw[←add_field _ _ 2 (by omega)];exact hc 2 _ rfl,by rw[←add_field _ _ 3 (by omega)];exact hc 3 _ rfl,by rw[←add_field _ _ 4 (by omega)];exact hc 4 _ rfl⟩
end Go.Proofs.Ytjegeghigfmkoaa.X
namespace Go.Proofs.Ytjegeghigfmkoaa.X
open Go.RowKit Go.Proofs.YtjegeghigfmkoaaW.PrintWords Go.Proofs.YtjegeghigfmkoaaW.PrintLast Go.Proofs.YtjegeghigfmkoaaW.PrintMore
attribute [local go_sem] max2_int min2_int max_two min_two max_three min_three max_four min_four   -- for this text's walks alone
set_option linter.unusedVariables false
set_option linter.unusedSimpArgs false
def cmp_Or_int.l0:Nat ->Int ->List Int ->Int ->Int ->Option (Int)
 |0,_,_,_,_=>none
 |k+1,x3,x6,x7,x8=>if x8<x7 then(if 0<=x8 then(if x8<(x6.length:Int) then(if (rd x6 x8)=x3 then(cmp_Or_int.l0 k x3 x6 x7 (wrap64 (x8+1))) else(some (rd x6 x8))) else(none)) else(none)) else(some x3)
def cmp_Or_int.f (k:Nat) (l0:List Int):Option (Int):=cmp_Or_int.l0 k 0 l0 (l0.length:Int) 0
set_option maxHeartbeats 8000000 in
set_option maxRecDepth 100000 in
theorem cmp_Or_int.calls (k:Nat) (A0:Option Addr) (c0:Nat) (l0:List Int) (r:Int) (w:World) (hr0:Kd.C (Kd.int .i64) w A0 l0.length l0) (hc0:l0.length<=c0) (h:cmp_Or_int.f k l0=some r):
  Calls Try.prog 91 #[.slice A0 l0.length c0] w fun e w'=>e= .returned (.int .i64 r)/\Drawn0 w w' :=by
 have HR0:=zd hr0;have HC0:=zd hc0;clear hr0 hc0;have H:(cmp_Or_int.l0 k 0 l0 (l0.length:Int) 0)=some r:=h;clear h;have H' :=zd H;clear H;go_enter Try.func91,Try.ntmps91;go_wp2;go_loopg [8] k (fun kq v8 w'=> ∃(x8_1:Int),v8= .int .i64 x8_1/\Aside0 (cmp_Or_int.l0 kq 0 l0 (l0.length:Int) x8_1=some r)/\Aside0 (kq<=k)/\Drawn0 w w')
 case atStart=>exact⟨(0),(by first|rfl|(simp;done)|(simp[*];done)),H',⟨Nat.le_refl _⟩,by repeat (first|exact Drawn0.refl _|apply Drawn0.step)⟩
 case round=>
  clear H';obtain⟨x8_1,rfl,HA,HK1,⟨m1,rfl⟩⟩:=hrel;cases gk with
  |zero=>exact absurd HA.out (by simp[cmp_Or_int.l0])
  | succ k1=>
   have H:=HA.out;clear HA;simp only[cmp_Or_int.l0] at H;by_cases c2:x8_1<(l0.length:Int)
   ·rw [if_pos c2] at H;have c2b0:decide (x8_1<(l0.length:Int))=true:=decide_eq_true c2;clear c2;by_cases c3:0<=x8_1
    ·rw[if_pos c3] at H;have c3b0:decide (0<=x8_1)=true:=decide_eq_true c3;clear c3;by_cases c4:x8_1<(l0.length:Int)
     ·rw[if_pos c4] at H;have c4b0:decide (x8_1<(l0.length:Int))=true:=decide_eq_true c4;clear c4;by_cases c5:(rd l0 x8_1)=0
      ·rw[if_pos c5] at H;have c5b0:((rd l0 x8_1)==0)=true:=beq_iff_eq.mpr c5;have c5b1:((rd l0 x8_1) !=0)=false:=bne_eq_false_iff_eq.mpr c5;clear c5;have H' :=zd H;clear H;have p122:0<=(x8_1:Int):=of_decide_eq_true (by first|(with_reducible assumption)|assumption);have q122:x8_1<(l0.length:Int):=of_decide_eq_true (by first|(with_reducible assumption)|assumption);obtain⟨ad122,e122,hx122_0⟩:=Kd.at_int HR0.out x8_1 p122 q122;cases e122;replace p122:=eq_true p122;replace q122:=eq_true q122;go_wp2;go_roundg k1
       case measure=>have:=HK1.out;omega
       case rel=>exact⟨(wrap64 (x8_1+1)),(by first|rfl|(simp;done)|(simp[*];done)),H',⟨by have:=HK1.out;omega⟩,by repeat (first|exact Drawn0.refl _|apply Drawn0.step)⟩
      ·rw[if_neg c5] at H;have c5b0:((rd l0 x8_1)==0)=false:=beq_eq_false_iff_ne.mpr c5;have c5b1:((rd l0 x8_1) !=0)=true:=bne_iff_ne.mpr c5;obtain rfl:=Option.some.inj H;have p122:0<=(x8_1:Int):=of_decide_eq_true (by first|(with_reducible assumption)|assumption);have q122:x8_1<(l0.length:Int):=of_decide_eq_true (by first|(with_reducible assumption)|assumption);obtain⟨ad122,e122,hx122_0⟩:=Kd.at_int HR0.out x8_1 p122 q122;cases e122;replace p122:=eq_true p122;replace q122:=eq_true q122;go_wp2;go_ret;exact⟨by first|rfl|(simp;done)|(simp[*];done),by repeat (first|exact Drawn0.refl _|apply Drawn0.step)⟩
     ·rw[if_neg c4] at H;exact absurd H (by simp)
    ·rw[if_neg c3] at H;exact absurd H (by simp)
   ·rw[if_neg c2] at H;have c2b0:decide (x8_1<(l0.length:Int))=false:=decide_eq_false c2;clear c2;obtain rfl:=Option.some.inj H;go_wp2;go_ret;exact⟨by first|rfl|(simp;done)|(simp[*];done),by repeat (first|exact Drawn0.refl _|apply Drawn0.step)⟩
end Go.Proofs.Ytjegeghigfmkoaa.X
namespace Go.Proofs.Ytjegeghigfmkoaa.X
open Go.RowKit Go.Proofs.YtjegeghigfmkoaaW.PrintWords Go.Proofs.YtjegeghigfmkoaaW.PrintLast Go.Proofs.YtjegeghigfmkoaaW.PrintMore
attribute [local go_sem] max2_int min2_int max_two min_two max_three min_three max_four min_four   -- for this text's walks alone
set_option linter.unusedVariables false
set_option linter.unusedSimpArgs false
def cmp_isNaN_int64.f (a0:Int):Option (Bool):=some (a0 !=a0)
set_option maxHeartbeats 8000000 in
set_option maxRecDepth 100000 in
theorem cmp_isNaN_int64.calls (a0:Int) (r:Bool) (w:World) (h:cmp_isNaN_int64.f a0=some r):
  Calls Try.prog 94 #[.int .i64 a0] w fun e w'=>e= .returned (.bool r)/\Drawn0 w w' :=by
 have H:(some (a0 !=a0))=some r:=h;clear h;obtain rfl:=Option.some.inj H;go_enter Try.func94,Try.ntmps94;go_wp2;go_ret;exact⟨by first|rfl|(simp;done)|(simp[*];done),by repeat (first|exact Drawn0.refl _|apply Drawn0.step)⟩
end Go.Proofs.Ytjegeghigfmkoaa.X
namespace Go.Proofs.Ytjegeghigfmkoaa.X
open Go.RowKit Go.Proofs.YtjegeghigfmkoaaW.PrintWords Go.Proofs.YtjegeghigfmkoaaW.PrintLast Go.Proofs.YtjegeghigfmkoaaW.PrintMore
attribute [local go_sem] max2_int min2_int max_two min_two max_three min_three max_four min_four   -- for this text's walks alone
set_option linter.unusedVariables false
set_option linter.unusedSimpArgs false
def cmp_Compare_int64.f (a0:Int) (a1:Int):Option (Int):=(cmp_isNaN_int64.f a0).bind fun t123=>((cmp_isNaN_int64.f a1).bind fun t124=>(if t123=true then(if t124=true then(some 0) else(some (-1))) else(if t124=true then(some 1) else(if a0<a1 then(some (-1)) else(if a0>a1 then(some 1) else(some 0))))))
set_option maxHeartbeats 8000000 in
set_option maxRecDepth 100000 in
theorem cmp_Compare_int64.calls (a0:Int) (a1:Int) (r:Int) (w:World) (h:cmp_Compare_int64.f a0 a1=some r):
  Calls Try.prog 92 #[.int .i64 a0,.int .i64 a1] w fun e w'=>e= .returned (.int .i64 r)/\Drawn0 w w' :=by
 have H:((cmp_isNaN_int64.f a0).bind fun t123=>((cmp_isNaN_int64.f a1).bind fun t124=>(if t123=true then(if t124=true then(some 0) else(some (-1))) else(if t124=true then(some 1) else(if a0<a1 then(some (-1)) else(if a0>a1 then(some 1) else(some 0)))))))=some r:=h;clear h;replace H:=Option.bind_eq_some_iff.mp H;obtain⟨t123,A30,H⟩:=H;replace H:((cmp_isNaN_int64.f a1).bind fun t124=>(if t123=true then(if t124=true then(some 0) else(some (-1))) else(if t124=true then(some 1) else(if a0<a1 then(some (-1)) else(if a0>a1 then(some 1) else(some 0))))))=some r:=H;have A3:=zd A30;clear A30;replace H:=Option.bind_eq_some_iff.mp H;obtain⟨t124,A40,H⟩:=H;replace H:(if t123=true then(if t124=true then(some 0) else(some (-1))) else(if t124=true then(some 1) else(if a0<a1 then(some (-1)) else(if a0>a1 then(some 1) else(some 0)))))=some r:=H;have A4:=zd A40;clear A40;by_cases c5:t123=true
 ·subst c5;have H1:(if t124=true then(some 0) else(some (-1)))=some r:=by rw[if_pos rfl] at H;exact H
  clear H;have H:=H1;clear H1;by_cases c6:t124=true
  ·subst c6;have H1:(some 0)=some r:=by rw[if_pos rfl] at H;exact H
   clear H;have H:=H1;clear H1;obtain rfl:=Option.some.inj H;go_enter Try.func92,Try.ntmps92;go_wp2_with (first|((with_reducible refine gate_callee (f:=94) rfl ?_);refine goesL_ (some 8) rfl rfl Try.func94 (by kernel_rfl) rfl #[.int .i64 a0] rfl (by(try simp only[List.map_toArray,List.map_cons,List.map_nil]);first|done|rfl|(simp only[List.length_drop,List.length_take];rfl)) ?_;(with_reducible refine(cmp_isNaN_int64.calls a0 true _ A3.out).mono ?_);rintro e w' ⟨rfl,⟨nd,rfl⟩⟩;refine⟨_,rfl,?_⟩)|((with_reducible refine gate_callee (f:=94) rfl ?_);refine goesL_ (some 10) rfl rfl Try.func94 (by kernel_rfl) rfl #[.int .i64 a1] rfl (by(try simp only[List.map_toArray,List.map_cons,List.map_nil]);first|done|rfl|(simp only[List.length_drop,List.length_take];rfl)) ?_;(with_reducible refine(cmp_isNaN_int64.calls a1 true _ A4.out).mono ?_);rintro e w' ⟨rfl,⟨nd,rfl⟩⟩;refine⟨_,rfl,?_⟩));go_ret;exact⟨by first|rfl|(simp;done)|(simp[*];done),by repeat (first|exact Drawn0.refl _|apply Drawn0.step)⟩
  ·replace c6:=Bool.eq_false_iff.mpr c6;subst c6;have H1:(some (-1))=some r:=by rw[if_neg (show ¬(false=true) by decide)] at H;exact H
   clear H;have H:=H1;clear H1;obtain rfl:=Option.some.inj H;go_enter Try.func92,Try.ntmps92;go_wp2_with (first|((with_reducible refine gate_callee (f:=94) rfl ?_);refine goesL_ (some 8) rfl rfl Try.func94 (by kernel_rfl) rfl #[.int .i64 a0] rfl (by(try simp only[List.map_toArray,List.map_cons,List.map_nil]);first|done|rfl|(simp only[List.length_drop,List.length_take];rfl)) ?_;(with_reducible refine(cmp_isNaN_int64.calls a0 true _ A3.out).mono ?_);rintro e w' ⟨rfl,⟨nd,rfl⟩⟩;refine⟨_,rfl,?_⟩)|((with_reducible refine gate_callee (f:=94) rfl ?_);refine goesL_ (some 10) rfl rfl Try.func94 (by kernel_rfl) rfl #[.int .i64 a1] rfl (by(try simp only[List.map_toArray,List.map_cons,List.map_nil]);first|done|rfl|(simp only[List.length_drop,List.length_take];rfl)) ?_;(with_reducible refine(cmp_isNaN_int64.calls a1 false _ A4.out).mono ?_);rintro e w' ⟨rfl,⟨nd,rfl⟩⟩;refine⟨_,rfl,?_⟩));go_ret;exact⟨by first|rfl|(simp;done)|(simp[*];done),by repeat (first|exact Drawn0.refl _|apply Drawn0.step)⟩
 ·replace c5:=Bool.eq_false_iff.mpr c5;subst c5;have H1:(if t124=true then(some 1) else(if a0<a1 then(some (-1)) else(if a0>a1 then(some 1) else(some 0))))=some r:=by rw[if_neg (show ¬(false=true) by decide)] at H;exact H
  clear H;have H:=H1;clear H1;by_cases c7:t124=true
  ·subst c7;have H1:(some 1)=some r:=by rw[if_pos rfl] at H;exact H
   clear H;have H:=H1;clear H1;obtain rfl:=Option.some.inj H;go_enter Try.func92,Try.ntmps92;go_wp2_with (first|((with_reducible refine gate_callee (f:=94) rfl ?_);refine goesL_ (some 8) rfl rfl Try.func94 (by kernel_rfl) rfl #[.int .i64 a0] rfl (by(try simp only[List.map_toArray,List.map_cons,List.map_nil]);first|done|rfl|(simp only[List.length_drop,List.length_take];rfl)) ?_;(with_reducible refine(cmp_isNaN_int64.calls a0 false _ A3.out).mono ?_);rintro e w' ⟨rfl,⟨nd,rfl⟩⟩;refine⟨_,rfl,?_⟩)|((with_reducible refine gate_callee (f:=94) rfl ?_);refine goesL_ (some 10) rfl rfl Try.func94 (by kernel_rfl) rfl #[.int .i64 a1] rfl (by(try simp only[List.map_toArray,List.map_cons,List.map_nil]);first|done|rfl|(simp only[List.length_drop,List.length_take];rfl)) ?_;(with_reducible refine(cmp_isNaN_int64.calls a1 true _ A4.out).mono ?_);rintro e w' ⟨rfl,⟨nd,rfl⟩⟩;refine⟨_,rfl,?_⟩));go_ret;exact⟨by first|rfl|(simp;done)|(simp[*];done),by repeat (first|exact Drawn0.refl _|apply Drawn0.step)⟩
  ·replace c7:=Bool.eq_false_iff.mpr c7;subst c7;have H1:(if a0<a1 then(some (-1)) else(if a0>a1 then(some 1) else(some 0)))=some r:=by rw[if_neg (show ¬(false=true) by decide)] at H;exact H
   clear H;have H:=H1;clear H1;by_cases c8:a0<a1
   ·rw[if_pos c8] at H;have c8b0:decide (a0<a1)=true:=decide_eq_true c8;clear c8;obtain rfl:=Option.some.inj H;go_enter Try.func92,Try.ntmps92;go_wp2_with (first|((with_reducible refine gate_callee (f:=94) rfl ?_);refine goesL_ (some 8) rfl rfl Try.func94 (by kernel_rfl) rfl #[.int .i64 a0] rfl (by(try simp only[List.map_toArray,List.map_cons,List.map_nil]);first|done|rfl|(simp only[List.length_drop,List.length_take];rfl)) ?_;(with_reducible refine(cmp_isNaN_int64.calls a0 false _ A3.out).mono ?_);rintro e w' ⟨rfl,⟨nd,rfl⟩⟩;refine⟨_,rfl,?_⟩)|((with_reducible refine gate_callee (f:=94) rfl ?_);refine goesL_ (some 10) rfl rfl Try.func94 (by kernel_rfl) rfl #[.int .i64 a1] rfl (by(try simp only[List.map_toArray,List.map_cons,List.map_nil]);first|done|rfl|(simp only[List.length_drop,List.length_take];rfl)) ?_;(with_reducible refine(cmp_isNaN_int64.calls a1 false _ A4.out).mono ?_);rintro e w' ⟨rfl,⟨nd,rfl⟩⟩;refine⟨_,rfl,?_⟩));go_ret;exact⟨by first|rfl|(simp;done)|(simp[*];done),by repeat (first|exact Drawn0.refl _|apply Drawn0.step)⟩
   ·rw[if_neg c8] at H;have c8b0:decide (a0<a1)=false:=decide_eq_false c8;clear c8;by_cases c9:a0>a1
    ·rw[if_pos c9] at H;have c9b0:decide (a1<a0)=true:=decide_eq_true c9;clear c9;obtain rfl:=Option.some.inj H;go_enter Try.func92,Try.ntmps92;go_wp2_with (first|((with_reducible refine gate_callee (f:=94) rfl ?_);refine goesL_ (some 8) rfl rfl Try.func94 (by kernel_rfl) rfl #[.int .i64 a0] rfl (by(try simp only[List.map_toArray,List.map_cons,List.map_nil]);first|done|rfl|(simp only[List.length_drop,List.length_take];rfl)) ?_;(with_reducible refine(cmp_isNaN_int64.calls a0 false _ A3.out).mono ?_);rintro e w' ⟨rfl,⟨nd,rfl⟩⟩;refine⟨_,rfl,?_⟩)|((with_reducible refine gate_callee (f:=94) rfl ?_);refine goesL_ (some 10) rfl rfl Try.func94 (by kernel_rfl) rfl #[.int .i64 a1] rfl (by(try simp only[List.map_toArray,List.map_cons,List.map_nil]);first|done|rfl|(simp only[List.length_drop,List.length_take];rfl)) ?_;(with_reducible refine(cmp_isNaN_int64.calls a1 false _ A4.out).mono ?_);rintro e w' ⟨rfl,⟨nd,rfl⟩⟩;refine⟨_,rfl,?_⟩));go_ret;exact⟨by first|rfl|(simp;done)|(simp[*];done),by repeat (first|exact Drawn0.refl _|apply Drawn0.step)⟩
    ·rw[if_neg c9] at H;have c9b0:decide (a1<a0)=false:=decide_eq_false c9;clear c9;obtain rfl:=Option.some.inj H;go_enter Try.func92,Try.ntmps92;go_wp2_with (first|((with_reducible refine gate_callee (f:=94) rfl ?_);refine goesL_ (some 8) rfl rfl Try.func94 (by kernel_rfl) rfl #[.int .i64 a0] rfl (by(try simp only[List.map_toArray,List.map_cons,List.map_nil]);first|done|rfl|(simp only[List.length_drop,List.length_take];rfl)) ?_;(with_reducible refine(cmp_isNaN_int64.calls a0 false _ A3.out).mono ?_);rintro e w' ⟨rfl,⟨nd,rfl⟩⟩;refine⟨_,rfl,?_⟩)|((with_reducible refine gate_callee (f:=94) rfl ?_);refine goesL_ (some 10) rfl rfl Try.func94 (by kernel_rfl) rfl #[.int .i64 a1] rfl (by(try simp only[List.map_toArray,List.map_cons,List.map_nil]);first|done|rfl|(simp only[List.length_drop,List.length_take];rfl)) ?_;(with_reducible refine(cmp_isNaN_int64.calls a1 false _ A4.out).mono ?_);rintro e w' ⟨rfl,⟨nd,rfl⟩⟩;refine⟨_,rfl,?_⟩));go_ret;exact⟨by first|rfl|(simp;done)|(simp[*];done),by repeat (first|exact Drawn0.refl _|apply Drawn0.step)⟩
end Go.Proofs.Ytjegeghigfmkoaa.X
namespace Go.Proofs.Ytjegeghigfmkoaa.X
open Go.RowKit Go.Proofs.YtjegeghigfmkoaaW.PrintWords Go.Proofs.YtjegeghigfmkoaaW.PrintLast Go.Proofs.YtjegeghigfmkoaaW.PrintMore
attribute [local go_sem] max2_int min2_int max_two min_two max_three min_three max_four min_four   -- for this text's walks alone
set_option linter.unusedVariables false
set_option linter.unusedSimpArgs false
def window_order.f (k:Nat) (a0_0:Int) (a0_1:Int) (a0_2:Int) (a0_3:Int) (a1_0:Int) (a1_1:Int) (a1_2:Int) (a1_3:Int):Option (Int):=(cmp_Compare_int64.f a0_0 a1_0).bind fun t127=>((cmp_Compare_int64.f a0_1 a1_1).bind fun t128=>((cmp_Compare_int64.f a0_2 a1_2).bind fun t129=>((cmp_Compare_int64.f a0_3 a1_3).bind fun t130=>((cmp_Or_int.f k (([t127,t128,t129,t130]:List Int))).bind fun t134=>(some t134)))))
def window_order.T1:Bool×List (List Nat×List Nat):=(true,[([],[]),([0],[0]),([],[]),([2],[2]),([1,3],[1,3]),([],[]),([5],[5]),([6],[6]),([],[]),([8],[8]),([9],[9]),([7,10,4],[7,10]),([],[]),([12],[12]),([13],[13]),([],[]),([15],[15]),([16],[16]),([14,17,11],[14,17]),([],[]),([19],[19]),([],[]),([21],[21]),([20,22,18],[20,22]),([4,11,18,23],[4,11,18,23]),([24,23],[24]),([25,25,0,1,2,3,4,5,6,7,8,9,10,11,12,13,14,15,16,17,18,19,20,21,22,23,24,25],[25])])
def window_order.B1:List Nat:=[0,1,0,4,15,0,32,96,0,256,768,2047,0,4096,12288,0,32768,98304,262143,0,524288,0,2097152,8388607,16777215,33554431,67108863]
theorem window_order.tab1:rtab .any (opsOf Try.f75 1)=window_order.T1:=by kernel_rfl
theorem window_order.bits1:waitsOk window_order.T1.2 window_order.B1=true:=by kernel_rfl
end Go.Proofs.Ytjegeghigfmkoaa.X
namespace Go.Proofs.Ytjegeghigfmkoaa.X
open Go.RowKit Go.Proofs.YtjegeghigfmkoaaW.PrintWords Go.Proofs.YtjegeghigfmkoaaW.PrintLast Go.Proofs.YtjegeghigfmkoaaW.PrintMore
attribute [local go_sem] max2_int min2_int max_two min_two max_three min_three max_four min_four   -- for this text's walks alone
set_option maxRecDepth 100000
set_option linter.unusedVariables false
set_option linter.unusedSimpArgs false
section
variable {P:Program} {ops:Array Oper} {rest:List Oper} {o:Oper} {a:Act} {Q:Exit→Act→World→Prop} {Kc:Act→World→Prop}
theorem box_event_d {W:World} (hgd:o.guard=none) {N:Tmp} (_hd:o.dst=some N) {cs:Array Value} {t:TypeId}
  (hrun:(execOp a.eval o).run P W= .ok (.value (.pointer (some ⟨W.heap.size,0,none⟩))) (W.alloc (.cells cs t (0,0))))
  (h: ∀g,g=W.heap.size→ ∀w1,w1.heap[g]? =some (.cells cs t (0,0))→Below W.heap.size W w1→W.drawn≤w1.drawn→wpList P ops Q rest (a.put o.dst (.pointer (some ⟨g,0,none⟩))) w1):wpList P ops Q (o::rest) a W:=
 Kd.event_run hgd hrun (h _ rfl _ (blk_new W _) (below_alloc (Below.refl _ _) _) (Nat.le_refl _))
open Go.Proofs.YtjegeghigfmkoaaW.PrintWords.Kd in
theorem R_lit_step_d {α:Type} (d:Kd α) {w0 W:World} (base e:Nat) (hw:Region.wanted o (yielded ops a.tmps)=true) {N:Tmp} (hd:o.dst=some N) {xs:List α} {inner:List Value} {ok okp:Nat→Prop}
  (hrun:(execOp a.eval o).run P W= .ok (.value (.slice (some ⟨W.heap.size,0,none⟩) xs.length xs.length)) (W.alloc (.cells inner.toArray e)))
  (hrep:Reps (d.M W base okp) d.sz xs inner) (hok: ∀k,okp k→ok k) (hfresh:ok W.heap.size) (HB:Below base w0 W) (hbase:base≤W.heap.size) (hm:xs.length≤9223372036854775807)
  (h: ∀v1 w1,d.R e w1 base ok v1 xs→Below base w0 w1→W.grownBy w1 none→(∃b,v1.ownBlock=some b∧W.heap.size≤b)→W.drawn≤w1.drawn→Kc (a.put o.dst v1) w1):if Region.wanted o (yielded ops a.tmps)=true then Oper.wp P o a W Kc Q else Kc (a.put o.dst undef) W:=by
 refine event_step hw hrun (h _ _ ⟨fun k hk=> ?_,inner,?_,?_⟩ (HB.alloc hbase _) (World.grownBy_alloc W _ none) ⟨W.heap.size,by simp[Value.ownBlock],Nat.le_refl _⟩ (Nat.le_refl _))
 ·have:W.heap.size=k:=by simpa[Value.ownBlock] using hk
  subst this;exact hfresh
 ·have h2:=World.ownsRow_lit (base:=base) (e:=e) (size:=d.sz) W inner.toArray xs.length hbase (by simpa[maxLen] using hm) (by simpa using hrep.1);simpa using h2
 ·refine hrep.imp_ (fun p c hp=>d.M_mono (fun k hk=>⟨hok k hk.1,fun he=> ?_⟩) (M_below (d.M_bound hp) (below_alloc (Below.refl _ _) _)));have h3:k=W.heap.size:=by simpa[Value.ownBlock] using he
  have:=hk.2.2.1;omega
end
theorem drawn_up {w:World} {n:Nat} {a b c d:Nat} (h:n≤w.drawn):n≤((((w.drewN a).drewN b).drewN c).drewN d).drawn:=by simp only[World.drewN];omega
set_option maxHeartbeats 8000000 in
set_option maxRecDepth 100000 in
theorem order_drawn (k:Nat) (a0_0:Int) (a0_1:Int) (a0_2:Int) (a0_3:Int) (a1_0:Int) (a1_1:Int) (a1_2:Int) (a1_3:Int) (r:Int) (w:World) (h:window_order.f k a0_0 a0_1 a0_2 a0_3 a1_0 a1_1 a1_2 a1_3=some r):
  Calls Try.prog 75 #[.agg #[.int .i64 a0_0,.int .i64 a0_1,.int .i64 a0_2,.int .i64 a0_3],.agg #[.int .i64 a1_0,.int .i64 a1_1,.int .i64 a1_2,.int .i64 a1_3]] w fun e w'=>e= .returned (.int .i64 r)∧Below w.heap.size w w'∧w.drawn≤w'.drawn:=by
 have hu46:=Try.underlying70;have HB:=Aside0.mk (Below.refl w.heap.size w);have H:((cmp_Compare_int64.f a0_0 a1_0).bind fun t126=>((cmp_Compare_int64.f a0_1 a1_1).bind fun t127=>((cmp_Compare_int64.f a0_2 a1_2).bind fun t128=>((cmp_Compare_int64.f a0_3 a1_3).bind fun t129=>((cmp_Or_int.f k (([t126,t127,t128,t129]:List Int))).bind fun t133=>(some t133))))))=some r:=h;clear h;replace H:=Option.bind_eq_some_iff.mp H;obtain⟨t126,A30,H⟩:=H;replace H:((cmp_Compare_int64.f a0_1 a1_1).bind fun t127=>((cmp_Compare_int64.f a0_2 a1_2).bind fun t128=>((cmp_Compare_int64.f a0_3 a1_3).bind fun t129=>((cmp_Or_int.f k (([t126,t127,t128,t129]:List Int))).bind fun t133=>(some t133)))))=some r:=H;have A3:=Aside0.mk A30;clear A30;replace H:=Option.bind_eq_some_iff.mp H;obtain⟨t127,A40,H⟩:=H;replace H:((cmp_Compare_int64.f a0_2 a1_2).bind fun t128=>((cmp_Compare_int64.f a0_3 a1_3).bind fun t129=>((cmp_Or_int.f k (([t126,t127,t128,t129]:List Int))).bind fun t133=>(some t133))))=some r:=H;have A4:=Aside0.mk A40;clear A40;replace H:=Option.bind_eq_some_iff.mp H;obtain⟨t128,A50,H⟩:=H;replace H:((cmp_Compare_int64.f a0_3 a1_3).bind fun t129=>((cmp_Or_int.f k (([t126,t127,t128,t129]:List Int))).bind fun t133=>(some t133)))=some r:=H;have A5:=Aside0.mk A50;clear A50;replace H:=Option.bind_eq_some_iff.mp H;obtain⟨t129,A60,H⟩:=H;replace H:((cmp_Or_int.f k (([t126,t127,t128,t129]:List Int))).bind fun t133=>(some t133))=some r:=H;have A6:=Aside0.mk A60;clear A60;obtain⟨y130,hy130⟩: ∃y_:List Int,y_=(([t126,t127,t128,t129]:List Int)):=⟨_,rfl⟩
 replace H:((cmp_Or_int.f k y130).bind fun t133=>(some t133))=some r:=by first|(rw[hy130];with_reducible exact H)|(have H2_:=(Option.bind_some _ _).symm.trans H;rw[hy130];with_reducible exact H2_)|(have H2_:=(Option.bind_some _ _).symm.trans H;with_reducible exact H2_)|with_reducible exact H|(rw[hy130];exact H)|exact H
 have Ny130:=Aside0.mk hy130;clear hy130;replace H:=Option.bind_eq_some_iff.mp H;obtain⟨t133,A70,H⟩:=H;replace H:(some t133)=some r:=H;have A7:=Aside0.mk A70;clear A70;obtain rfl:=Option.some.inj H;go_enter Try.func75,Try.ntmps75
 try go_wp2_with (first|((with_reducible refine gate_dst (N:=2) rfl ?_);refine box_event_d ?hg (N:=2) ?hd (cs:= #[.int .i64 a0_0,.int .i64 a0_1,.int .i64 a0_2,.int .i64 a0_3]) (t:=70) ?hr ?_;(case hd=>rfl);(case hg=>rfl);(case hr=>first|(go_simp;done)|(go_simp;rfl));intro gb124 hg w8 hbox hb hdr;have HD:=Aside0.mk hdr;clear hdr;have n0_:=Aside0.mk (below_step (by repeat (first|(with_reducible first|exact HB.out|apply below_alloc|apply pw_below_drewN|apply below_drew1)|exact HB.out)) hb);have n1_:=Aside0.mk (hbox);have n2_:=Aside0.mk ((by rw[hg];exact(below_size (by repeat (first|(with_reducible first|exact HB.out|apply below_alloc|apply pw_below_drewN|apply below_drew1)|exact HB.out))):w.heap.size≤gb124));have n3_:=Aside0.mk ((by rw[hg];exact(below_size (by repeat (first|(with_reducible first|exact HB.out|apply below_alloc|apply pw_below_drewN|apply below_drew1)|exact HB.out))):w.heap.size≤gb124));clear HB;have HB:=n0_;have BK124:=n1_;have GW124:=n2_;have GE124:=n3_;clear n0_ n1_ n2_ n3_;clear hb hbox hg)|((with_reducible refine gate_dst (N:=3) rfl ?_);refine box_event_d ?hg (N:=3) ?hd (cs:= #[.int .i64 a1_0,.int .i64 a1_1,.int .i64 a1_2,.int .i64 a1_3]) (t:=70) ?hr ?_;(case hd=>rfl);(case hg=>rfl);(case hr=>first|(go_simp;done)|(go_simp;rfl));intro gb125 hg w9 hbox hb hdr;have nd_:=Aside0.mk (Nat.le_trans HD.out hdr);clear HD hdr;have HD:=nd_;clear nd_;have n0_:=Aside0.mk (blk_below (g:=gb124) (o:= .cells #[.int .i64 a0_0,.int .i64 a0_1,.int .i64 a0_2,.int .i64 a0_3] 70 (0,0)) (by(with_reducible repeat (first|refine blk_drewN ?_ _|refine blk_drew ?_|refine blk_alloc ?_ _));exact BK124.out) hb);have n1_:=Aside0.mk (below_step (by repeat (first|(with_reducible first|exact HB.out|apply below_alloc|apply pw_below_drewN|apply below_drew1|refine below_set ?_ GE124.out)|exact HB.out)) hb);have n2_:=Aside0.mk (hbox);have n3_:=Aside0.mk ((by rw[hg];exact(below_size (by repeat (first|(with_reducible first|exact HB.out|apply below_alloc|apply pw_below_drewN|apply below_drew1|refine below_set ?_ GE124.out)|exact HB.out))):w.heap.size≤gb125));have n4_:=Aside0.mk ((by rw[hg];exact(below_size (by repeat (first|(with_reducible first|exact HB.out|apply below_alloc|apply pw_below_drewN|apply below_drew1|refine below_set ?_ GE124.out)|exact HB.out))):w.heap.size≤gb125));have n5_:=Aside0.mk ((by rw[hg];exact Nat.ne_of_lt (blk_lt (g:=gb124) (o:= .cells #[.int .i64 a0_0,.int .i64 a0_1,.int .i64 a0_2,.int .i64 a0_3] 70 (0,0)) (by(with_reducible repeat (first|refine blk_drewN ?_ _|refine blk_drew ?_|refine blk_alloc ?_ _));exact BK124.out)):gb124≠gb125));have n6_:=Aside0.mk ((by rw[hg];exact Nat.ne_of_gt (blk_lt (g:=gb124) (o:= .cells #[.int .i64 a0_0,.int .i64 a0_1,.int .i64 a0_2,.int .i64 a0_3] 70 (0,0)) (by(with_reducible repeat (first|refine blk_drewN ?_ _|refine blk_drew ?_|refine blk_alloc ?_ _));exact BK124.out)):gb125≠gb124));clear BK124;clear HB;have BK124:=n0_;have HB:=n1_;have BK125:=n2_;have GW125:=n3_;have GE125:=n4_;have NB124_125:=n5_;have NB125_124:=n6_;clear n0_ n1_ n2_ n3_ n4_ n5_ n6_;clear hb hbox hg))
 have n0_:=Aside0.mk (blk_drew BK124.out);have n1_:=Aside0.mk (blk_drew BK125.out);have n2_:=Aside0.mk (below_drew1 HB.out);clear BK124;clear BK125;clear HB;have BK124:=n0_;have BK125:=n1_;have HB:=n2_;clear n0_ n1_ n2_;refine start_ (n:=27) (S:=fun w'=>w'.cell? ⟨gb124,0,none⟩=some (.int .i64 a0_0)∧w'.cell? ⟨gb124,1,none⟩=some (.int .i64 a0_1)∧w'.cell? ⟨gb124,2,none⟩=some (.int .i64 a0_2)∧w'.cell? ⟨gb124,3,none⟩=some (.int .i64 a0_3)∧w'.cell? ⟨gb125,0,none⟩=some (.int .i64 a1_0)∧w'.cell? ⟨gb125,1,none⟩=some (.int .i64 a1_1)∧w'.cell? ⟨gb125,2,none⟩=some (.int .i64 a1_2)∧w'.cell? ⟨gb125,3,none⟩=some (.int .i64 a1_3)) (ds:=[]) #[false,false,false,false,false,false,false,false,false,false,false,false,false,false,false,false,false,false,false,false,false,false,false,false,false,false,false] (by kernel_rfl) rfl rfl ⟨(blk_cell BK124.out 0).trans rfl,(blk_cell BK124.out 1).trans rfl,(blk_cell BK124.out 2).trans rfl,(blk_cell BK124.out 3).trans rfl,(blk_cell BK125.out 0).trans rfl,(blk_cell BK125.out 1).trans rfl,(blk_cell BK125.out 2).trans rfl,(blk_cell BK125.out 3).trans rfl⟩ (fun hHeld=> ?_);refine with_tabW window_order.tab1 window_order.bits1 (fun HT_ HW_=> ?_);have nd_:Aside0 (w.drawn≤w9.drew.drawn):=Aside0.mk (Nat.le_succ_of_le HD.out);clear HD;have HD:=nd_;clear nd_;generalize w9.drew=w10 at BK124 BK125 HB hHeld HD ⊢;refine pure_ (i:=0) (N:=some 5) (v:= ?_) (a' := ?_) #[true,false,false,false,false,false,false,false,false,false,false,false,false,false,false,false,false,false,false,false,false,false,false,false,false,false,false] rfl rfl (any_of HT_.out (by kernel_rfl)) (fun _ _ _ h=>h) (Or.inl ⟨by rfl,?_⟩) ?_ ?_;rotate_left
 ·intro w';go_simp
  with_reducible rfl
 rotate_left
 ·simp only[Act.put,List.setIfInBounds_toArray,List.set_cons_zero,List.set_cons_succ,i64_w,i32_w];rfl
 refine pure_ (i:=2) (N:=some 7) (v:= ?_) (a' := ?_) #[true,false,true,false,false,false,false,false,false,false,false,false,false,false,false,false,false,false,false,false,false,false,false,false,false,false,false] rfl rfl (any_of HT_.out (by kernel_rfl)) (fun _ _ _ h=>h) (Or.inl ⟨by rfl,?_⟩) ?_ ?_;rotate_left
 ·intro w';go_simp
  with_reducible rfl
 rotate_left
 ·simp only[Act.put,List.setIfInBounds_toArray,List.set_cons_zero,List.set_cons_succ,i64_w,i32_w];rfl
 refine pure_ (i:=5) (N:=some 10) (v:= ?_) (a' := ?_) #[true,false,true,false,false,true,false,false,false,false,false,false,false,false,false,false,false,false,false,false,false,false,false,false,false,false,false] rfl rfl (any_of HT_.out (by kernel_rfl)) (fun _ _ _ h=>h) (Or.inl ⟨by rfl,?_⟩) ?_ ?_;rotate_left
 ·intro w';go_simp
  with_reducible rfl
 rotate_left
 ·simp only[Act.put,List.setIfInBounds_toArray,List.set_cons_zero,List.set_cons_succ,i64_w,i32_w];rfl
 refine pure_ (i:=6) (N:=some 11) (v:= ?_) (a' := ?_) #[true,false,true,false,false,true,true,false,false,false,false,false,false,false,false,false,false,false,false,false,false,false,false,false,false,false,false] rfl rfl (any_of HT_.out (by kernel_rfl)) (fun _ _ _ h=>h) (Or.inl ⟨by rfl,?_⟩) ?_ ?_;rotate_left
 ·intro w';go_simp
  with_reducible rfl
 rotate_left
 ·simp only[Act.put,List.setIfInBounds_toArray,List.set_cons_zero,List.set_cons_succ,i64_w,i32_w];rfl
 refine pure_ (i:=8) (N:=some 13) (v:= ?_) (a' := ?_) #[true,false,true,false,false,true,true,false,true,false,false,false,false,false,false,false,false,false,false,false,false,false,false,false,false,false,false] rfl rfl (any_of HT_.out (by kernel_rfl)) (fun _ _ _ h=>h) (Or.inl ⟨by rfl,?_⟩) ?_ ?_;rotate_left
 ·intro w';go_simp
  with_reducible rfl
 rotate_left
 ·simp only[Act.put,List.setIfInBounds_toArray,List.set_cons_zero,List.set_cons_succ,i64_w,i32_w];rfl
 refine pure_ (i:=9) (N:=some 14) (v:= ?_) (a' := ?_) #[true,false,true,false,false,true,true,false,true,true,false,false,false,false,false,false,false,false,false,false,false,false,false,false,false,false,false] rfl rfl (any_of HT_.out (by kernel_rfl)) (fun _ _ _ h=>h) (Or.inl ⟨by rfl,?_⟩) ?_ ?_;rotate_left
 ·intro w';go_simp
  with_reducible rfl
 rotate_left
 ·simp only[Act.put,List.setIfInBounds_toArray,List.set_cons_zero,List.set_cons_succ,i64_w,i32_w];rfl
 refine pure_ (i:=12) (N:=some 17) (v:= ?_) (a' := ?_) #[true,false,true,false,false,true,true,false,true,true,false,false,true,false,false,false,false,false,false,false,false,false,false,false,false,false,false] rfl rfl (any_of HT_.out (by kernel_rfl)) (fun _ _ _ h=>h) (Or.inl ⟨by rfl,?_⟩) ?_ ?_;rotate_left
 ·intro w';go_simp
  with_reducible rfl
 rotate_left
 ·simp only[Act.put,List.setIfInBounds_toArray,List.set_cons_zero,List.set_cons_succ,i64_w,i32_w];rfl
 refine pure_ (i:=13) (N:=some 18) (v:= ?_) (a' := ?_) #[true,false,true,false,false,true,true,false,true,true,false,false,true,true,false,false,false,false,false,false,false,false,false,false,false,false,false] rfl rfl (any_of HT_.out (by kernel_rfl)) (fun _ _ _ h=>h) (Or.inl ⟨by rfl,?_⟩) ?_ ?_;rotate_left
 ·intro w';go_simp
  with_reducible rfl
 rotate_left
 ·simp only[Act.put,List.setIfInBounds_toArray,List.set_cons_zero,List.set_cons_succ,i64_w,i32_w];rfl
 refine pure_ (i:=15) (N:=some 20) (v:= ?_) (a' := ?_) #[true,false,true,false,false,true,true,false,true,true,false,false,true,true,false,true,false,false,false,false,false,false,false,false,false,false,false] rfl rfl (any_of HT_.out (by kernel_rfl)) (fun _ _ _ h=>h) (Or.inl ⟨by rfl,?_⟩) ?_ ?_;rotate_left
 ·intro w';go_simp
  with_reducible rfl
 rotate_left
 ·simp only[Act.put,List.setIfInBounds_toArray,List.set_cons_zero,List.set_cons_succ,i64_w,i32_w];rfl
 refine pure_ (i:=16) (N:=some 21) (v:= ?_) (a' := ?_) #[true,false,true,false,false,true,true,false,true,true,false,false,true,true,false,true,true,false,false,false,false,false,false,false,false,false,false] rfl rfl (any_of HT_.out (by kernel_rfl)) (fun _ _ _ h=>h) (Or.inl ⟨by rfl,?_⟩) ?_ ?_;rotate_left
 ·intro w';go_simp
  with_reducible rfl
 rotate_left
 ·simp only[Act.put,List.setIfInBounds_toArray,List.set_cons_zero,List.set_cons_succ,i64_w,i32_w];rfl
 refine pure_ (i:=19) (N:=some 24) (v:= ?_) (a' := ?_) #[true,false,true,false,false,true,true,false,true,true,false,false,true,true,false,true,true,false,false,true,false,false,false,false,false,false,false] rfl rfl (any_of HT_.out (by kernel_rfl)) (fun _ _ _ h=>h) (Or.inl ⟨by rfl,?_⟩) ?_ ?_;rotate_left
 ·intro w';go_simp
  with_reducible rfl
 rotate_left
 ·simp only[Act.put,List.setIfInBounds_toArray,List.set_cons_zero,List.set_cons_succ,i64_w,i32_w];rfl
 refine pure_ (i:=21) (N:=some 26) (v:= ?_) (a' := ?_) #[true,false,true,false,false,true,true,false,true,true,false,false,true,true,false,true,true,false,false,true,false,true,false,false,false,false,false] rfl rfl (any_of HT_.out (by kernel_rfl)) (fun _ _ _ h=>h) (Or.inl ⟨by rfl,?_⟩) ?_ ?_;rotate_left
 ·intro w';go_simp
  with_reducible rfl
 rotate_left
 ·simp only[Act.put,List.setIfInBounds_toArray,List.set_cons_zero,List.set_cons_succ,i64_w,i32_w];rfl
 refine take_ (i:=1) (N:=some 6) (v:= ?_) (a' := ?_) #[true,true,true,false,false,true,true,false,true,true,false,false,true,true,false,true,true,false,false,true,false,true,false,false,false,false,false] rfl rfl (take_ofW HT_.out HW_.out (by kernel_rfl)) (fun _ _ _ h=>h) (Or.inl ⟨by rfl,?_⟩) hHeld ?_ ?_;rotate_left
 ·rintro w' ⟨s0,s1,s2,s3,s4,s5,s6,s7⟩;go_simp
  with_reducible rfl
 rotate_left
 ·simp only[Act.put,List.setIfInBounds_toArray,List.set_cons_zero,List.set_cons_succ,i64_w,i32_w];rfl
 refine take_ (i:=3) (N:=some 8) (v:= ?_) (a' := ?_) #[true,true,true,true,false,true,true,false,true,true,false,false,true,true,false,true,true,false,false,true,false,true,false,false,false,false,false] rfl rfl (take_ofW HT_.out HW_.out (by kernel_rfl)) (fun _ _ _ h=>h) (Or.inl ⟨by rfl,?_⟩) hHeld ?_ ?_;rotate_left
 ·rintro w' ⟨s0,s1,s2,s3,s4,s5,s6,s7⟩;go_simp
  with_reducible rfl
 rotate_left
 ·simp only[Act.put,List.setIfInBounds_toArray,List.set_cons_zero,List.set_cons_succ,i64_w,i32_w];rfl
 refine take_ (i:=7) (N:=some 12) (v:= ?_) (a' := ?_) #[true,true,true,true,false,true,true,true,true,true,false,false,true,true,false,true,true,false,false,true,false,true,false,false,false,false,false] rfl rfl (take_ofW HT_.out HW_.out (by kernel_rfl)) (fun _ _ _ h=>h) (Or.inl ⟨by rfl,?_⟩) hHeld ?_ ?_;rotate_left
 ·rintro w' ⟨s0,s1,s2,s3,s4,s5,s6,s7⟩;go_simp
  with_reducible rfl
 rotate_left
 ·simp only[Act.put,List.setIfInBounds_toArray,List.set_cons_zero,List.set_cons_succ,i64_w,i32_w];rfl
 refine take_ (i:=10) (N:=some 15) (v:= ?_) (a' := ?_) #[true,true,true,true,false,true,true,true,true,true,true,false,true,true,false,true,true,false,false,true,false,true,false,false,false,false,false] rfl rfl (take_ofW HT_.out HW_.out (by kernel_rfl)) (fun _ _ _ h=>h) (Or.inl ⟨by rfl,?_⟩) hHeld ?_ ?_;rotate_left
 ·rintro w' ⟨s0,s1,s2,s3,s4,s5,s6,s7⟩;go_simp
  with_reducible rfl
 rotate_left
 ·simp only[Act.put,List.setIfInBounds_toArray,List.set_cons_zero,List.set_cons_succ,i64_w,i32_w];rfl
 refine take_ (i:=14) (N:=some 19) (v:= ?_) (a' := ?_) #[true,true,true,true,false,true,true,true,true,true,true,false,true,true,true,true,true,false,false,true,false,true,false,false,false,false,false] rfl rfl (take_ofW HT_.out HW_.out (by kernel_rfl)) (fun _ _ _ h=>h) (Or.inl ⟨by rfl,?_⟩) hHeld ?_ ?_;rotate_left
 ·rintro w' ⟨s0,s1,s2,s3,s4,s5,s6,s7⟩;go_simp
  with_reducible rfl
 rotate_left
 ·simp only[Act.put,List.setIfInBounds_toArray,List.set_cons_zero,List.set_cons_succ,i64_w,i32_w];rfl
 refine take_ (i:=17) (N:=some 22) (v:= ?_) (a' := ?_) #[true,true,true,true,false,true,true,true,true,true,true,false,true,true,true,true,true,true,false,true,false,true,false,false,false,false,false] rfl rfl (take_ofW HT_.out HW_.out (by kernel_rfl)) (fun _ _ _ h=>h) (Or.inl ⟨by rfl,?_⟩) hHeld ?_ ?_;rotate_left
 ·rintro w' ⟨s0,s1,s2,s3,s4,s5,s6,s7⟩;go_simp
  with_reducible rfl
 rotate_left
 ·simp only[Act.put,List.setIfInBounds_toArray,List.set_cons_zero,List.set_cons_succ,i64_w,i32_w];rfl
 refine take_ (i:=20) (N:=some 25) (v:= ?_) (a' := ?_) #[true,true,true,true,false,true,true,true,true,true,true,false,true,true,true,true,true,true,false,true,true,true,false,false,false,false,false] rfl rfl (take_ofW HT_.out HW_.out (by kernel_rfl)) (fun _ _ _ h=>h) (Or.inl ⟨by rfl,?_⟩) hHeld ?_ ?_;rotate_left
 ·rintro w' ⟨s0,s1,s2,s3,s4,s5,s6,s7⟩;go_simp
  with_reducible rfl
 rotate_left
 ·simp only[Act.put,List.setIfInBounds_toArray,List.set_cons_zero,List.set_cons_succ,i64_w,i32_w];rfl
 refine take_ (i:=22) (N:=some 27) (v:= ?_) (a' := ?_) #[true,true,true,true,false,true,true,true,true,true,true,false,true,true,true,true,true,true,false,true,true,true,true,false,false,false,false] rfl rfl (take_ofW HT_.out HW_.out (by kernel_rfl)) (fun _ _ _ h=>h) (Or.inl ⟨by rfl,?_⟩) hHeld ?_ ?_;rotate_left
 ·rintro w' ⟨s0,s1,s2,s3,s4,s5,s6,s7⟩;go_simp
  with_reducible rfl
 rotate_left
 ·simp only[Act.put,List.setIfInBounds_toArray,List.set_cons_zero,List.set_cons_succ,i64_w,i32_w];rfl
 refine one_ (i:=4) (N:=some 9) #[true,true,true,true,true,true,true,true,true,true,true,false,true,true,true,true,true,true,false,true,true,true,true,false,false,false,false] rfl rfl (one_of HT_.out (by kernel_rfl)) (by decide) (fun K hK=> ?_);refine goes_ Try.func92 (by kernel_rfl) rfl #[.int .i64 a0_0,.int .i64 a1_0] (by rfl) rfl rfl (by(try simp only[List.map_toArray,List.map_cons,List.map_nil]);first|done|rfl|(simp only[List.length_drop,List.length_take];rfl)) ?_
 with_reducible refine(cmp_Compare_int64.calls a0_0 a1_0 t126 _ A3.out).mono ?_
 rintro e w' ⟨rfl,⟨nd,rfl⟩⟩;refine⟨_,rfl,?_⟩;refine hK.out _ _ ⟨(blk_cell BK124.out 0).trans rfl,(blk_cell BK124.out 1).trans rfl,(blk_cell BK124.out 2).trans rfl,(blk_cell BK124.out 3).trans rfl,(blk_cell BK125.out 0).trans rfl,(blk_cell BK125.out 1).trans rfl,(blk_cell BK125.out 2).trans rfl,(blk_cell BK125.out 3).trans rfl⟩ (fun hHeld=> ?_);clear hK K;refine norm_ (a' := ?_) ?_ ?_;rotate_left
 ·show Act.put _ (some 9) _=_;simp only[Act.put,List.setIfInBounds_toArray,List.set_cons_zero,List.set_cons_succ,i64_w,i32_w];rfl
 refine one_ (i:=11) (N:=some 16) #[true,true,true,true,true,true,true,true,true,true,true,true,true,true,true,true,true,true,false,true,true,true,true,false,false,false,false] rfl rfl (one_of HT_.out (by kernel_rfl)) (by decide) (fun K hK=> ?_);refine goes_ Try.func92 (by kernel_rfl) rfl #[.int .i64 a0_1,.int .i64 a1_1] (by rfl) rfl rfl (by(try simp only[List.map_toArray,List.map_cons,List.map_nil]);first|done|rfl|(simp only[List.length_drop,List.length_take];rfl)) ?_
 with_reducible refine(cmp_Compare_int64.calls a0_1 a1_1 t127 _ A4.out).mono ?_
 rintro e w' ⟨rfl,⟨nd,rfl⟩⟩;refine⟨_,rfl,?_⟩;refine hK.out _ _ ⟨(blk_cell BK124.out 0).trans rfl,(blk_cell BK124.out 1).trans rfl,(blk_cell BK124.out 2).trans rfl,(blk_cell BK124.out 3).trans rfl,(blk_cell BK125.out 0).trans rfl,(blk_cell BK125.out 1).trans rfl,(blk_cell BK125.out 2).trans rfl,(blk_cell BK125.out 3).trans rfl⟩ (fun hHeld=> ?_);clear hK K;refine norm_ (a' := ?_) ?_ ?_;rotate_left
 ·show Act.put _ (some 16) _=_;simp only[Act.put,List.setIfInBounds_toArray,List.set_cons_zero,List.set_cons_succ,i64_w,i32_w];rfl
 refine one_ (i:=18) (N:=some 23) #[true,true,true,true,true,true,true,true,true,true,true,true,true,true,true,true,true,true,true,true,true,true,true,false,false,false,false] rfl rfl (one_of HT_.out (by kernel_rfl)) (by decide) (fun K hK=> ?_);refine goes_ Try.func92 (by kernel_rfl) rfl #[.int .i64 a0_2,.int .i64 a1_2] (by rfl) rfl rfl (by(try simp only[List.map_toArray,List.map_cons,List.map_nil]);first|done|rfl|(simp only[List.length_drop,List.length_take];rfl)) ?_
 with_reducible refine(cmp_Compare_int64.calls a0_2 a1_2 t128 _ A5.out).mono ?_
 rintro e w' ⟨rfl,⟨nd,rfl⟩⟩;refine⟨_,rfl,?_⟩;refine hK.out _ _ ⟨(blk_cell BK124.out 0).trans rfl,(blk_cell BK124.out 1).trans rfl,(blk_cell BK124.out 2).trans rfl,(blk_cell BK124.out 3).trans rfl,(blk_cell BK125.out 0).trans rfl,(blk_cell BK125.out 1).trans rfl,(blk_cell BK125.out 2).trans rfl,(blk_cell BK125.out 3).trans rfl⟩ (fun hHeld=> ?_);clear hK K;refine norm_ (a' := ?_) ?_ ?_;rotate_left
 ·show Act.put _ (some 23) _=_;simp only[Act.put,List.setIfInBounds_toArray,List.set_cons_zero,List.set_cons_succ,i64_w,i32_w];rfl
 refine one_ (i:=23) (N:=some 28) #[true,true,true,true,true,true,true,true,true,true,true,true,true,true,true,true,true,true,true,true,true,true,true,true,false,false,false] rfl rfl (one_of HT_.out (by kernel_rfl)) (by decide) (fun K hK=> ?_);refine goes_ Try.func92 (by kernel_rfl) rfl #[.int .i64 a0_3,.int .i64 a1_3] (by rfl) rfl rfl (by(try simp only[List.map_toArray,List.map_cons,List.map_nil]);first|done|rfl|(simp only[List.length_drop,List.length_take];rfl)) ?_
 with_reducible refine(cmp_Compare_int64.calls a0_3 a1_3 t129 _ A6.out).mono ?_
 rintro e w' ⟨rfl,⟨nd,rfl⟩⟩;refine⟨_,rfl,?_⟩;refine hK.out _ _ ⟨(blk_cell BK124.out 0).trans rfl,(blk_cell BK124.out 1).trans rfl,(blk_cell BK124.out 2).trans rfl,(blk_cell BK124.out 3).trans rfl,(blk_cell BK125.out 0).trans rfl,(blk_cell BK125.out 1).trans rfl,(blk_cell BK125.out 2).trans rfl,(blk_cell BK125.out 3).trans rfl⟩ (fun hHeld=> ?_);clear hK K;refine norm_ (a' := ?_) ?_ ?_;rotate_left
 ·show Act.put _ (some 28) _=_;simp only[Act.put,List.setIfInBounds_toArray,List.set_cons_zero,List.set_cons_succ,i64_w,i32_w];rfl
 refine one_ (i:=24) (N:=some 29) #[true,true,true,true,true,true,true,true,true,true,true,true,true,true,true,true,true,true,true,true,true,true,true,true,true,false,false] rfl rfl (one_of HT_.out (by kernel_rfl)) (by decide) (fun K hK=> ?_);refine R_lit_step_d (Kd.int .i64) _ 3 ?hg (N:=29) ?hd (xs:=([t126,t127,t128,t129]:List Int)) (inner:=[.int .i64 t126,.int .i64 t127,.int .i64 t128,.int .i64 t129]) (ok:=fun _=>True) (okp:=fun _=>True) ?hr ?hp (fun _ hk=>hk) trivial (Below.refl _ _) (Nat.le_refl _) (by simp) ?_;(case hd=>rfl);(case hg=>rfl);(case hr=>first|(go_simp;done)|(go_simp;rfl));(case hp=>exact(Reps.one (show Kd.M (Kd.int .i64) _ _ _ t126 [.int .i64 t126] from rfl) (Reps.one (show Kd.M (Kd.int .i64) _ _ _ t127 [.int .i64 t127] from rfl) (Reps.one (show Kd.M (Kd.int .i64) _ _ _ t128 [.int .i64 t128] from rfl) (Reps.one (show Kd.M (Kd.int .i64) _ _ _ t129 [.int .i64 t129] from rfl) (Reps.none _ _))))));intro v131 w11 ho12 hb hg_ hnew_ hdr;have nd_:=Aside0.mk (Nat.le_trans (drawn_up HD.out) hdr);clear HD hdr;have HD:=nd_;clear nd_;clear hg_ hnew_
 (first|rw[←Ny130.out] at ho12|(simp only[Int.reduceToNat] at ho12;rw[←Ny130.out] at ho12))
 have n0_:=Aside0.mk (Kd.R_lower ho12 (below_size (by repeat (first|(with_reducible first|exact HB.out|apply below_alloc|apply pw_below_drewN|apply below_drew1|refine below_set ?_ GE124.out|refine below_set ?_ GE125.out)|exact HB.out))));have n1_:=Aside0.mk (blk_below (g:=gb124) (o:= .cells #[.int .i64 a0_0,.int .i64 a0_1,.int .i64 a0_2,.int .i64 a0_3] 70 (0,0)) (by(with_reducible repeat (first|refine blk_drewN ?_ _|refine blk_drew ?_|refine blk_alloc ?_ _));exact BK124.out) hb);have n2_:=Aside0.mk (blk_below (g:=gb125) (o:= .cells #[.int .i64 a1_0,.int .i64 a1_1,.int .i64 a1_2,.int .i64 a1_3] 70 (0,0)) (by(with_reducible repeat (first|refine blk_drewN ?_ _|refine blk_drew ?_|refine blk_alloc ?_ _));exact BK125.out) hb);have n3_:=Aside0.mk (below_step (by repeat (first|(with_reducible first|exact HB.out|apply below_alloc|apply pw_below_drewN|apply below_drew1|refine below_set ?_ GE124.out|refine below_set ?_ GE125.out)|exact HB.out)) hb);clear BK124;clear BK125;clear HB;have HO132:=n0_;have BK124:=n1_;have BK125:=n2_;have HB:=n3_;clear n0_ n1_ n2_ n3_;clear hb ho12;obtain⟨Ao13,co13,eo13⟩:=Kd.R_slice HO132.out
 (first|subst eo13|(injection eo13 with f1_ f2_ f3_;have f4_:=f1_.symm;have f5_:=f3_.symm;clear f1_ f2_ f3_;subst f4_;subst f5_))
 refine hK.out _ _ ⟨(blk_cell BK124.out 0).trans rfl,(blk_cell BK124.out 1).trans rfl,(blk_cell BK124.out 2).trans rfl,(blk_cell BK124.out 3).trans rfl,(blk_cell BK125.out 0).trans rfl,(blk_cell BK125.out 1).trans rfl,(blk_cell BK125.out 2).trans rfl,(blk_cell BK125.out 3).trans rfl⟩ (fun hHeld=> ?_);clear hK K;refine norm_ (a' := ?_) ?_ ?_;rotate_left
 ·show Act.put _ (some 29) _=_;simp only[Act.put,List.setIfInBounds_toArray,List.set_cons_zero,List.set_cons_succ,i64_w,i32_w];rfl
 refine one_ (i:=25) (N:=some 30) #[true,true,true,true,true,true,true,true,true,true,true,true,true,true,true,true,true,true,true,true,true,true,true,true,true,true,false] rfl rfl (one_of HT_.out (by kernel_rfl)) (by decide) (fun K hK=> ?_);refine goes_ Try.func91 (by kernel_rfl) rfl #[.slice Ao13 y130.length co13] (by rfl) rfl rfl (by(try simp only[List.map_toArray,List.map_cons,List.map_nil]);first|done|rfl|(simp only[List.length_drop,List.length_take];rfl)) ?_
 with_reducible refine(cmp_Or_int.calls k _ _ y130 t133 _ ?side1 ?side2 A7.out).mono ?_
 (case side1=>repeat (first|exact(Kd.R_reads' HO132.out).2.2|(with_reducible refine Kd.C_alloc ?_ _)|(with_reducible refine Kd.C_drewN ?_ _)|(with_reducible refine Kd.C_drew ?_)))
 (case side2=>exact(Kd.R_reads' HO132.out).2.1)
 rintro e w' ⟨rfl,⟨nd,rfl⟩⟩;refine⟨_,rfl,?_⟩;refine hK.out _ _ ⟨(blk_cell BK124.out 0).trans rfl,(blk_cell BK124.out 1).trans rfl,(blk_cell BK124.out 2).trans rfl,(blk_cell BK124.out 3).trans rfl,(blk_cell BK125.out 0).trans rfl,(blk_cell BK125.out 1).trans rfl,(blk_cell BK125.out 2).trans rfl,(blk_cell BK125.out 3).trans rfl⟩ (fun hHeld=> ?_);clear hK K;refine norm_ (a' := ?_) ?_ ?_;rotate_left
 ·show Act.put _ (some 30) _=_;simp only[Act.put,List.setIfInBounds_toArray,List.set_cons_zero,List.set_cons_succ,i64_w,i32_w];rfl
 refine pure_ (i:=26) (N:=some 4) (v:= ?_) (a' := ?_) #[true,true,true,true,true,true,true,true,true,true,true,true,true,true,true,true,true,true,true,true,true,true,true,true,true,true,true] rfl rfl (any_of HT_.out (by kernel_rfl)) (fun _ _ _ h=>h) (Or.inl ⟨by rfl,?_⟩) ?_ ?_;rotate_left
 ·intro w';go_simp
  with_reducible rfl
 rotate_left
 ·simp only[Act.put,List.setIfInBounds_toArray,List.set_cons_zero,List.set_cons_succ,i64_w,i32_w];rfl
 refine done_ (done_of HT_.out (by kernel_rfl)) ?_
 try go_wp2
 go_ret;exact⟨by first|rfl|(simp[errW_none,errW_some]<;>rfl)|(simp[*,errW_none,errW_some]<;>rfl),⟨by repeat (first|(with_reducible first|exact HB.out|apply below_alloc|apply pw_below_drewN|apply below_drew1|refine below_set ?_ GE124.out|refine below_set ?_ GE125.out)|exact HB.out),by have:=HD.out;simp only[World.drewN];omega⟩⟩
end Go.Proofs.Ytjegeghigfmkoaa.X
namespace Go.Proofs.Ytjegeghigfmkoaa.X
open Go.RowKit Go.Proofs.YtjegeghigfmkoaaW.PrintWords Go.Proofs.YtjegeghigfmkoaaW.PrintLast Go.Proofs.YtjegeghigfmkoaaW.PrintMore
attribute [local go_sem] max2_int min2_int max_two min_two max_three min_three max_four min_four   -- for this text's walks alone
set_option linter.unusedVariables false
set_option linter.unusedSimpArgs false
def window_overlap.f (a0_0:Int) (a0_1:Int) (a1_0:Int) (a1_1:Int):Option (Bool):=some (decide ((mx a0_0 a1_0)<(mn a0_1 a1_1)))
set_option maxHeartbeats 8000000 in
set_option maxRecDepth 100000 in
theorem window_overlap.calls (a0_0:Int) (a0_1:Int) (a1_0:Int) (a1_1:Int) (r:Bool) (w:World) (h:window_overlap.f a0_0 a0_1 a1_0 a1_1=some r):
  Calls Try.prog 81 #[.agg #[.int .i64 a0_0,.int .i64 a0_1],.agg #[.int .i64 a1_0,.int .i64 a1_1]] w fun e w'=>e= .returned (.bool r)/\Below w.heap.size w w' :=by
 have hu68:=Try.underlying68;have HB:=zd (Below.refl w.heap.size w);have H:(some (decide ((mx a0_0 a1_0)<(mn a0_1 a1_1))))=some r:=h;clear h;obtain⟨ji3,hji3⟩: ∃j_:Int,(mx a0_0 a1_0)=j_:=⟨_,rfl⟩
 replace H:(some (decide ((ji3)<(mn a0_1 a1_1))))=some r:=by first|(rw[hji3] at H;exact H)|(simp only[hji3] at H ⊢;exact H)
 have hji3_:(if a0_0<a1_0 then a1_0 else a0_0)=ji3:=hji3;obtain⟨ji4,hji4⟩: ∃j_:Int,(mn a0_1 a1_1)=j_:=⟨_,rfl⟩
 replace H:(some (decide ((ji3)<(ji4))))=some r:=by first|(rw[hji4] at H;exact H)|(simp only[hji4] at H ⊢;exact H)
 have hji4_:(if a1_1<a0_1 then a1_1 else a0_1)=ji4:=hji4;obtain rfl:=Option.some.inj H;go_enter Try.func81,Try.ntmps81;go_wp2_with (first|((with_reducible refine gate_dst (N:=2) rfl ?_);refine box_event ?hg (N:=2) ?hd (cs:= #[.int .i64 a0_0,.int .i64 a0_1]) (t:=68) ?hr ?_;(case hd=>rfl);(case hg=>rfl);(case hr=>first|(go_simp;done)|(go_simp;rfl));intro gb135 hg w5 hbox hb;have n0_:=zd (zs (by repeat (first|(with_reducible first|exact HB.out|apply zh|apply zi|apply zj)|exact HB.out)) hb);have n1_:=zd (hbox);have n2_:=zd ((by rw[hg];exact(below_size (by repeat (first|(with_reducible first|exact HB.out|apply zh|apply zi|apply zj)|exact HB.out))):w.heap.size<=gb135));have n3_:=zd ((by rw[hg];exact(below_size (by repeat (first|(with_reducible first|exact HB.out|apply zh|apply zi|apply zj)|exact HB.out))):w.heap.size<=gb135));clear HB;have HB:=n0_;have BK135:=n1_;have GW135:=n2_;have GE135:=n3_;clear n0_ n1_ n2_ n3_;clear hb hbox hg)|((with_reducible refine gate_dst (N:=3) rfl ?_);refine box_event ?hg (N:=3) ?hd (cs:= #[.int .i64 a1_0,.int .i64 a1_1]) (t:=68) ?hr ?_;(case hd=>rfl);(case hg=>rfl);(case hr=>first|(go_simp;done)|(go_simp;rfl));intro gb136 hg w6 hbox hb;have n0_:=zd (zp (g:=gb135) (o:= .cells #[.int .i64 a0_0,.int .i64 a0_1] 68 (0,0)) (by(with_reducible repeat (first|refine zk ?_ _|refine zl ?_|refine zm ?_ _));exact BK135.out) hb);have n1_:=zd (zs (by repeat (first|(with_reducible first|exact HB.out|apply zh|apply zi|apply zj|refine zn ?_ GE135.out)|exact HB.out)) hb);have n2_:=zd (hbox);have n3_:=zd ((by rw[hg];exact(below_size (by repeat (first|(with_reducible first|exact HB.out|apply zh|apply zi|apply zj|refine zn ?_ GE135.out)|exact HB.out))):w.heap.size<=gb136));have n4_:=zd ((by rw[hg];exact(below_size (by repeat (first|(with_reducible first|exact HB.out|apply zh|apply zi|apply zj|refine zn ?_ GE135.out)|exact HB.out))):w.heap.size<=gb136));have n5_:=zd ((by rw[hg];exact Nat.ne_of_lt (blk_lt (g:=gb135) (o:= .cells #[.int .i64 a0_0,.int .i64 a0_1] 68 (0,0)) (by(with_reducible repeat (first|refine zk ?_ _|refine zl ?_|refine zm ?_ _));exact BK135.out)):gb135≠gb136));have n6_:=zd ((by rw[hg];exact Nat.ne_of_gt (blk_lt (g:=gb135) (o:= .cells #[.int .i64 a0_0,.int .i64 a0_1] 68 (0,0)) (by(with_reducible repeat (first|refine zk ?_ _|refine zl ?_|refine zm ?_ _));exact BK135.out)):gb136≠gb135));clear BK135;clear HB;have BK135:=n0_;have HB:=n1_;have BK136:=n2_;have GW136:=n3_;have GE136:=n4_;have NB135_136:=n5_;have NB136_135:=n6_;clear n0_ n1_ n2_ n3_ n4_ n5_ n6_;clear hb hbox hg;have hnb7:=NB135_136.out;have hnc7:=NB136_135.out;have hcz8_0:w6.cell? ⟨gb135,0,none⟩=some (.int .i64 a0_0):=(zo BK135.out 0).trans rfl;have hcz8_1:w6.cell? ⟨gb135,1,none⟩=some (.int .i64 a0_1):=(zo BK135.out 1).trans rfl;have hfz8_0:=blk_frozen BK135.out 0;have hfz8_1:=blk_frozen BK135.out 1;have hcz9_0:w6.cell? ⟨gb136,0,none⟩=some (.int .i64 a1_0):=(zo BK136.out 0).trans rfl;have hcz9_1:w6.cell? ⟨gb136,1,none⟩=some (.int .i64 a1_1):=(zo BK136.out 1).trans rfl;have hfz9_0:=blk_frozen BK136.out 0;have hfz9_1:=blk_frozen BK136.out 1));go_ret;exact⟨by first|rfl|(simp[errW_none,errW_some]<;>rfl)|(simp only[←hji3,←hji4];first|rfl|(simp[errW_none,errW_some]<;>rfl))|(simp[*,errW_none,errW_some]<;>rfl),by repeat (first|(with_reducible first|exact HB.out|apply zh|apply zi|apply zj|refine zn ?_ GE135.out|refine zn ?_ GE136.out)|exact HB.out)⟩
end Go.Proofs.Ytjegeghigfmkoaa.X
namespace Go.Proofs.Ytjegeghigfmkoaa.X
open Go.RowKit Go.Proofs.YtjegeghigfmkoaaW.PrintWords Go.Proofs.YtjegeghigfmkoaaW.PrintLast Go.Proofs.YtjegeghigfmkoaaW.PrintMore
attribute [local go_sem] max2_int min2_int max_two min_two max_three min_three max_four min_four   -- for this text's walks alone
set_option linter.unusedVariables false
set_option linter.unusedSimpArgs false
def state_everything.f:Option (Int×Int):=some ((-9223372036854775808),2199023255553)
set_option maxHeartbeats 8000000 in
set_option maxRecDepth 100000 in
theorem state_everything.calls (r1:Int) (r2:Int) (w:World) (h:state_everything.f=some (r1,r2)):
  Calls Try.prog 58 #[] w fun e w'=>e= .returned (.agg #[.int .i64 r1,.int .i64 r2])/\Below w.heap.size w w' :=by
 have hu68:=Try.underlying68;have HB:=zd (Below.refl w.heap.size w);have H:(some ((-9223372036854775808),2199023255553))=some (r1,r2):=h;clear h;simp only[Option.some.injEq,Prod.mk.injEq] at H;obtain⟨rfl,rfl⟩:=H;go_enter Try.func58,Try.ntmps58;go_wp2_with (first|((with_reducible refine gate_dst (N:=0) rfl ?_);refine box_event ?hg (N:=0) ?hd (cs:= #[.int .i64 0,.int .i64 0]) (t:=68) ?hr ?_;(case hd=>rfl);(case hg=>rfl);(case hr=>first|(go_simp;done)|(go_simp;rfl));intro gb101 hg w1 hbox hb;have n0_:=zd (zs (by repeat (first|(with_reducible first|exact HB.out|apply zh|apply zi|apply zj)|exact HB.out)) hb);have n1_:=zd (hbox);have n2_:=zd ((by rw[hg];exact(below_size (by repeat (first|(with_reducible first|exact HB.out|apply zh|apply zi|apply zj)|exact HB.out))):w.heap.size<=gb101));have n3_:=zd ((by rw[hg];exact(below_size (by repeat (first|(with_reducible first|exact HB.out|apply zh|apply zi|apply zj)|exact HB.out))):w.heap.size<=gb101));clear HB;have HB:=n0_;have BK101:=n1_;have GW101:=n2_;have GE101:=n3_;clear n0_ n1_ n2_ n3_;clear hb hbox hg;have hcz2_0:w1.cell? ⟨gb101,0,none⟩=some (.int .i64 0):=(zo BK101.out 0).trans rfl;have hcz2_1:w1.cell? ⟨gb101,1,none⟩=some (.int .i64 0):=(zo BK101.out 1).trans rfl;have hfz2_0:=blk_frozen BK101.out 0;have hfz2_1:=blk_frozen BK101.out 1));refine bodyPost_ret (results_cell_row rfl _ _ gb101 68 #[.int .i64 (-9223372036854775808),.int .i64 2199023255553] (0,0) _ rfl (by(with_reducible repeat (first|refine zk ?_ _|refine zl ?_|refine zm ?_ _));refine blk_put (cs:= #[.int .i64 (-9223372036854775808),.int .i64 0]) ?_ 1 _ rfl;(with_reducible repeat (first|refine zk ?_ _|refine zl ?_|refine zm ?_ _));refine blk_put (cs:= #[.int .i64 0,.int .i64 0]) ?_ 0 _ rfl;(with_reducible repeat (first|refine zk ?_ _|refine zl ?_|refine zm ?_ _));exact BK101.out) Try.underlying68 rfl (by kernel_rfl)) rfl ?_;exact⟨by first|rfl|(simp[errW_none,errW_some]<;>rfl)|(simp[*,errW_none,errW_some]<;>rfl),by repeat (first|(with_reducible first|exact HB.out|apply zh|apply zi|apply zj|refine zn ?_ GE101.out)|exact HB.out)⟩
end Go.Proofs.Ytjegeghigfmkoaa.X
namespace Go.Proofs.Ytjegeghigfmkoaa.X
open Go.RowKit Go.Proofs.YtjegeghigfmkoaaW.PrintWords Go.Proofs.YtjegeghigfmkoaaW.PrintLast Go.Proofs.YtjegeghigfmkoaaW.PrintMore
attribute [local go_sem] max2_int min2_int max_two min_two max_three min_three max_four min_four   -- for this text's walks alone
set_option linter.unusedVariables false
set_option linter.unusedSimpArgs false
def window_below.f (a0:Int) (a1:Int):Option (Int):=if a1=0 then(none) else(if (wrap64 ((wrap64 (Int.tdiv a0 a1))*a1))>a0 then(some (wrap64 ((wrap64 ((wrap64 (Int.tdiv a0 a1))*a1))-a1))) else(some (wrap64 ((wrap64 (Int.tdiv a0 a1))*a1))))
set_option maxHeartbeats 8000000 in
set_option maxRecDepth 100000 in
theorem window_below.calls (a0:Int) (a1:Int) (r:Int) (w:World) (h:window_below.f a0 a1=some r):
  Calls Try.prog 78 #[.int .i64 a0,.int .i64 a1] w fun e w'=>e= .returned (.int .i64 r)/\Drawn0 w w' :=by
 have H:(if a1=0 then(none) else(if (wrap64 ((wrap64 (Int.tdiv a0 a1))*a1))>a0 then(some (wrap64 ((wrap64 ((wrap64 (Int.tdiv a0 a1))*a1))-a1))) else(some (wrap64 ((wrap64 (Int.tdiv a0 a1))*a1)))))=some r:=h;clear h;by_cases c3:a1=0
 ·rw[if_pos c3] at H;exact absurd H (by simp)
 ·rw[if_neg c3] at H;have c3b0:(a1==0)=false:=beq_eq_false_iff_ne.mpr c3;have c3b1:(a1 !=0)=true:=bne_iff_ne.mpr c3;by_cases c4:(wrap64 ((wrap64 (Int.tdiv a0 a1))*a1))>a0
  ·rw[if_pos c4] at H;have c4b0:decide (a0<(wrap64 ((wrap64 (Int.tdiv a0 a1))*a1)))=true:=decide_eq_true c4;clear c4;obtain rfl:=Option.some.inj H;go_enter Try.func78,Try.ntmps78;go_wp2;go_ret;exact⟨by first|rfl|(simp;done)|(simp[*];done),by repeat (first|exact Drawn0.refl _|apply Drawn0.step)⟩
  ·rw[if_neg c4] at H;have c4b0:decide (a0<(wrap64 ((wrap64 (Int.tdiv a0 a1))*a1)))=false:=decide_eq_false c4;clear c4;obtain rfl:=Option.some.inj H;go_enter Try.func78,Try.ntmps78;go_wp2;go_ret;exact⟨by first|rfl|(simp;done)|(simp[*];done),by repeat (first|exact Drawn0.refl _|apply Drawn0.step)⟩
end Go.Proofs.Ytjegeghigfmkoaa.X
namespace Go.Proofs.Ytjegeghigfmkoaa.X
open Go.RowKit Go.Proofs.YtjegeghigfmkoaaW.PrintWords Go.Proofs.YtjegeghigfmkoaaW.PrintLast Go.Proofs.YtjegeghigfmkoaaW.PrintMore
attribute [local go_sem] max2_int min2_int max_two min_two max_three min_three max_four min_four   -- for this text's walks alone
set_option linter.unusedVariables false
set_option linter.unusedSimpArgs false
def api_Span.l0:Nat ->List (S68) ->Int ->Int ->Option ((List (S68)))
 |0,_,_,_=>none
 |k+1,x0,x2,x3=>if x2<x3 then(if 0<=x3 then(if x3<(x0.length:Int) then(if 0<=x2 then(if x2<(x0.length:Int) then(api_Span.l0 k ((x0.set (x2:Int).toNat (⟨(rd_T68 x0 x3).f0,(rd_T68 x0 x3).f1⟩:S68)).set (x3:Int).toNat (⟨(rd_T68 x0 x2).f0,(rd_T68 x0 x2).f1⟩:S68)) (wrap64 (x2+1)) (wrap64 (x3-1))) else(none)) else(none)) else(none)) else(none)) else(some x0)
def api_Span.f (k:Nat) (l0:List (S68)):Option ((List (S68))):=api_Span.l0 k l0 0 (wrap64 ((l0.length:Int)-1))
def api_Span.T3:Bool×List (List Nat×List Nat):=(true,[([],[]),([],[]),([],[]),([],[]),([],[]),([],[]),([4,5],[4,5]),([6],[6]),([],[]),([],[]),([8,9],[8,9]),([10],[10]),([0,1,0,1,4,5,6,7,11],[0,1]),([12,7,0,1,4,5,6,7,11],[7,12]),([2,3,0,1,2,3,4,5,6,7,8,9,10,11,12,13],[2,3]),([14,11,13,0,1,2,3,4,5,6,7,8,9,10,11,12,13],[11,14])])
def api_Span.B3:List Nat:=[0,0,0,0,0,0,48,112,0,0,768,1792,4083,8179,16383,32767]
theorem api_Span.tab3:rtab .any (opsOf Try.f79 3)=api_Span.T3:=by kernel_rfl
theorem api_Span.bits3:waitsOk api_Span.T3.2 api_Span.B3=true:=by kernel_rfl
set_option maxHeartbeats 8000000 in
set_option maxRecDepth 100000 in
theorem api_Span.calls (k:Nat) (P0_:Nat ->Prop) (u9000_:Value) (l0:List (S68)) (r:List (S68)) (w0 w:World) (hB:Below w0.heap.size w0 w) (ho0:Kd.R k68 68 w w0.heap.size P0_ u9000_ l0) (h:api_Span.f k l0=some r):
  Calls Try.prog 79 #[u9000_] w fun e w'=>e= .returned (.tuple #[])/\Kd.R k68 68 w' w0.heap.size (fun k_=>(P0_ k_∨w.heap.size<=k_)) u9000_ r/\Below w0.heap.size w0 w'/\Kept w w' (fun k_=>P0_ k_):=by
 have hu68:=Try.underlying68;have HO0:=zd (show Kd.R k68 68 w w0.heap.size (fun k_=>(P0_ k_∨w.heap.size<=k_)) u9000_ l0 from zq ho0 (fun k_ hk=>(.inl hk)));have HK:=zd (Kept.refl w (fun k_=>P0_ k_));have HW0:=zd hB.size;have HB:=zd hB;clear hB;have H:(api_Span.l0 k l0 0 (wrap64 ((l0.length:Int)-1)))=some r:=h;clear h;have H' :=zd H;clear H;obtain⟨Ao2,co2,eo2⟩:=Kd.R_slice HO0.out;subst eo2;go_enter Try.func79,Try.ntmps79;go_wp2;go_loopg [2,3] k (fun kq v2 v3 w'=> ∃(x0_1:List (S68)) (x2_1:Int) (x3_1:Int),v2= .int .i64 x2_1/\v3= .int .i64 x3_1/\Aside0 (api_Span.l0 kq x0_1 x2_1 x3_1=some r)/\Aside0 (kq<=k)/\Aside0 (Kd.R k68 68 w' w0.heap.size (fun k_=>(P0_ k_∨w.heap.size<=k_)) (.slice Ao2 l0.length co2) x0_1)/\Aside0 (Kept w w' (fun k_=>P0_ k_))/\Aside0 (Below w0.heap.size w0 w'))
 case atStart=>exact⟨(l0),(0),(wrap64 ((l0.length:Int)-1)),(by first|rfl|(simp;done)|(simp[*];done)),(by first|rfl|(simp;done)|(simp[*];done)),H',⟨Nat.le_refl _⟩,⟨by(with_reducible repeat (first|apply ze|apply zf|apply zg));exact HO0.out⟩,⟨by repeat (first|(with_reducible first|exact HK.out|apply Kept.alloc|apply Kept.drewN|apply Kept.drew)|exact HK.out)⟩,⟨by repeat (first|(with_reducible first|exact HB.out|apply zh|apply zi|apply zj)|exact HB.out)⟩⟩
 case round=>
  clear H'
  try clear p2
  obtain⟨x0_1,x2_1,x3_1,rfl,rfl,HA,HK1,HO_0,HK,HB⟩:=hrel;have hl0_1:=(Kd.R_reads' HO_0.out).1;rw[hl0_1] at HO_0
  (try simp only[hl0_1])
  cases gk with
  |zero=>exact absurd HA.out (by simp[api_Span.l0])
  | succ k1=>
   have H:=HA.out;clear HA;simp only[api_Span.l0] at H;by_cases c3:x2_1<x3_1
   ·rw [if_pos c3] at H;have c3b0:decide (x2_1<x3_1)=true:=decide_eq_true c3;clear c3;by_cases c4:0<=x3_1
    ·rw [if_pos c4] at H;have c4b0:decide (0<=x3_1)=true:=decide_eq_true c4;clear c4;by_cases c5:x3_1<(x0_1.length:Int)
     ·rw [if_pos c5] at H;have c5b0:decide (x3_1<(x0_1.length:Int))=true:=decide_eq_true c5;clear c5;by_cases c6:0<=x2_1
      ·rw[if_pos c6] at H;have c6b0:decide (0<=x2_1)=true:=decide_eq_true c6;clear c6;by_cases c7:x2_1<(x0_1.length:Int)
       ·rw[if_pos c7] at H;have c7b0:decide (x2_1<(x0_1.length:Int))=true:=decide_eq_true c7;clear c7;obtain⟨y104,hy104⟩: ∃y_:List (S68),y_=(x0_1.set (x2_1:Int).toNat (⟨(rd_T68 x0_1 x3_1).f0,(rd_T68 x0_1 x3_1).f1⟩:S68)):=⟨_,rfl⟩
        replace H:(api_Span.l0 k1 (y104.set (x3_1:Int).toNat (⟨(rd_T68 x0_1 x2_1).f0,(rd_T68 x0_1 x2_1).f1⟩:S68)) (wrap64 (x2_1+1)) (wrap64 (x3_1-1)))=some r:=by first|(rw[hy104];with_reducible exact H)|(have H2_:=(Option.bind_some _ _).symm.trans H;rw[hy104];with_reducible exact H2_)|(have H2_:=(Option.bind_some _ _).symm.trans H;with_reducible exact H2_)|with_reducible exact H|(rw[hy104];exact H)|exact H
        have Ny104:=zd hy104;clear hy104;obtain⟨y105,hy105⟩: ∃y_:List (S68),y_=(y104.set (x3_1:Int).toNat (⟨(rd_T68 x0_1 x2_1).f0,(rd_T68 x0_1 x2_1).f1⟩:S68)):=⟨_,rfl⟩
        replace H:(api_Span.l0 k1 y105 (wrap64 (x2_1+1)) (wrap64 (x3_1-1)))=some r:=by first|(rw[hy105];with_reducible exact H)|(have H2_:=(Option.bind_some _ _).symm.trans H;rw[hy105];with_reducible exact H2_)|(have H2_:=(Option.bind_some _ _).symm.trans H;with_reducible exact H2_)|with_reducible exact H|(rw[hy105];exact H)|exact H
        have Ny105:=zd hy105;clear hy105;have H' :=zd H;clear H
        try go_wp2
        have n0_:=zd (zg HO_0.out);have n1_:=zd (Kept.drew HK.out);have n2_:=zd (zj HB.out);clear HO_0;clear HK;clear HB;have HO_0:=n0_;have HK:=n1_;have HB:=n2_;clear n0_ n1_ n2_;have p102:0<=(x3_1:Int):=of_decide_eq_true (by first|(with_reducible assumption)|assumption);have q102:x3_1<(x0_1.length:Int):=of_decide_eq_true (by first|(with_reducible assumption)|assumption);obtain⟨ad102,e102,hx102_0,hx102_1⟩:=at_T68 (Kd.R_reads' HO_0.out).2.2 x3_1 p102 q102;cases e102;replace p102:=eq_true p102;replace q102:=eq_true q102;have p103:0<=(x2_1:Int):=of_decide_eq_true (by first|(with_reducible assumption)|assumption);have q103:x2_1<(x0_1.length:Int):=of_decide_eq_true (by first|(with_reducible assumption)|assumption);obtain⟨ad103,e103,hx103_0,hx103_1⟩:=at_T68 (Kd.R_reads' HO_0.out).2.2 x2_1 p103 q103;obtain rfl:ad102=ad103:=(by injection e103)
        replace p103:=eq_true p103;replace q103:=eq_true q103;have p8:0<=(x2_1:Int):=of_decide_eq_true (by first|(with_reducible assumption)|assumption);have q8:(x2_1:Int)<((x0_1.length:Int):Int):=of_decide_eq_true (by first|(with_reducible assumption)|assumption);obtain⟨go8,co8,eo8,gb8,gl8,cl8,HG8⟩:=Kd.R_form HO_0.out (by omega)
        (first|cases eo8|(injection eo8 with ea_ en_ ec_;(first|subst ea_|(injection ea_ with ea_;subst ea_));subst ec_;clear en_))
        have GB8:=zd gb8;have GG8:=zd HG8;clear gb8 gl8 HG8;have HMgo8:=zd (show(P0_ go8∨w.heap.size<=go8) from(HO_0.out.1 _ rfl))
        (first|simp only[add_plain] at hx102_0|skip)
        (first|simp only[add_plain] at hx102_1|skip)
        (first|simp only[add_plain] at hx103_0|skip)
        (first|simp only[add_plain] at hx103_1|skip)
        obtain⟨ce8,hcl8,hM8,hcc8,hfr8⟩:=Kd.R_elem HO_0.out z68 (x2_1:Int) p8 q8;obtain rfl:=k68_openM hM8;have hx8_0:World.cell? _ ⟨go8,(x2_1:Int).toNat*2,none⟩=some (.int .i64 ((rd_T68 x0_1 x2_1).f0)):=hcc8 0 _ rfl;have hx8_1:World.cell? _ ⟨go8,(x2_1:Int).toNat*2+1,none⟩=some (.int .i64 ((rd_T68 x0_1 x2_1).f1)):=hcc8 1 _ rfl;have hf8_0:World.frozen? _ ⟨go8,(x2_1:Int).toNat*2,none⟩=false:=hfr8 0;have hf8_1:World.frozen? _ ⟨go8,(x2_1:Int).toNat*2+1,none⟩=false:=hfr8 1;clear hcl8 hcc8 hfr8 hM8;replace p8:=eq_true p8;replace q8:=eq_true q8;obtain⟨ce11,hcl11,hM11,hcc11,hfr11⟩:=Kd.R_elem HO_0.out z68 (x2_1:Int) (of_decide_eq_true (by first|(with_reducible assumption)|assumption)) (by have h_:(x2_1:Int)<((x0_1.length:Int):Int):=of_decide_eq_true (by first|(with_reducible assumption)|assumption);first|exact h_|(have e_:=(Kd.R_reads' HO_0.out).1;omega)|simpa using h_);obtain rfl:=k68_openM hM11;have HP11:=(Kd.R_seg HO_0.out (x2_1:Int) (of_decide_eq_true (by first|(with_reducible assumption)|assumption)) (by have h_:(x2_1:Int)<((x0_1.length:Int):Int):=of_decide_eq_true (by first|(with_reducible assumption)|assumption);first|exact h_|(have e_:=(Kd.R_reads' HO_0.out).1;omega)|simpa using h_) (seg:=[.int .i64 ((rd_T68 x0_1 x3_1).f0),.int .i64 ((rd_T68 x0_1 x3_1).f1)]) (j:=0) hcl11 hcc11 (show 2<=2 from by decide) (x' :=(⟨(rd_T68 x0_1 x3_1).f0,(rd_T68 x0_1 x3_1).f1⟩:S68)) (k68_mkM _ _ _ (⟨(rd_T68 x0_1 x3_1).f0,(rd_T68 x0_1 x3_1).f1⟩:S68)) (fun _ hk=>hk)).1;rw[←Ny104.out] at HP11;have HQ11:=zd HP11;clear hcl11 hcc11 hfr11 hM11 HP11;have p9:0<=(x3_1:Int):=of_decide_eq_true (by first|(with_reducible assumption)|assumption);have q9:(x3_1:Int)<((x0_1.length:Int):Int):=of_decide_eq_true (by first|(with_reducible assumption)|assumption);obtain⟨ce9,hcl9,hM9,hcc9,hfr9⟩:=Kd.R_elem HQ11.out z68 (x3_1:Int) p9 q9;obtain rfl:=k68_openM hM9;have hx9_0:World.cell? _ ⟨go8,(x3_1:Int).toNat*2,none⟩=some (.int .i64 ((rd_T68 y104 x3_1).f0)):=hcc9 0 _ rfl;have hx9_1:World.cell? _ ⟨go8,(x3_1:Int).toNat*2+1,none⟩=some (.int .i64 ((rd_T68 y104 x3_1).f1)):=hcc9 1 _ rfl;have hf9_0:World.frozen? _ ⟨go8,(x3_1:Int).toNat*2,none⟩=false:=hfr9 0;have hf9_1:World.frozen? _ ⟨go8,(x3_1:Int).toNat*2+1,none⟩=false:=hfr9 1;clear hcl9 hcc9 hfr9 hM9;replace p9:=eq_true p9;replace q9:=eq_true q9;obtain⟨ce12,hcl12,hM12,hcc12,hfr12⟩:=Kd.R_elem HQ11.out z68 (x3_1:Int) (of_decide_eq_true (by first|(with_reducible assumption)|assumption)) (by have h_:(x3_1:Int)<((x0_1.length:Int):Int):=of_decide_eq_true (by first|(with_reducible assumption)|assumption);first|exact h_|(have e_:=(Kd.R_reads' HO_0.out).1;omega)|simpa using h_);obtain rfl:=k68_openM hM12;have HP12:=(Kd.R_seg HQ11.out (x3_1:Int) (of_decide_eq_true (by first|(with_reducible assumption)|assumption)) (by have h_:(x3_1:Int)<((x0_1.length:Int):Int):=of_decide_eq_true (by first|(with_reducible assumption)|assumption);first|exact h_|(have e_:=(Kd.R_reads' HO_0.out).1;omega)|simpa using h_) (seg:=[.int .i64 ((rd_T68 x0_1 x2_1).f0),.int .i64 ((rd_T68 x0_1 x2_1).f1)]) (j:=0) hcl12 hcc12 (show 2<=2 from by decide) (x' :=(⟨(rd_T68 x0_1 x2_1).f0,(rd_T68 x0_1 x2_1).f1⟩:S68)) (k68_mkM _ _ _ (⟨(rd_T68 x0_1 x2_1).f0,(rd_T68 x0_1 x2_1).f1⟩:S68)) (fun _ hk=>hk)).1;rw[←Ny105.out] at HP12;have HQ12:=zd HP12;clear hcl12 hcc12 hfr12 hM12 HP12;refine start_ (n:=16) (S:=fun w'=>w'.cell? ⟨go8,((x3_1).toNat*2),none⟩=some (.int .i64 ((rd_T68 x0_1 x3_1).f0))/\w'.cell? ⟨go8,((x3_1).toNat*2)+1,none⟩=some (.int .i64 ((rd_T68 x0_1 x3_1).f1))/\w'.cell? ⟨go8,((x2_1).toNat*2),none⟩=some (.int .i64 ((rd_T68 x0_1 x2_1).f0))/\w'.cell? ⟨go8,((x2_1).toNat*2)+1,none⟩=some (.int .i64 ((rd_T68 x0_1 x2_1).f1))) (ds:=[13,15]) #[f_,f_,f_,f_,f_,f_,f_,f_,f_,f_,f_,f_,f_,f_,f_,f_] (by kernel_rfl) rfl rfl ⟨hx102_0,hx102_1,hx103_0,hx103_1⟩ (fun hHeld=> ?_);refine with_tabW api_Span.tab3 api_Span.bits3 (fun HT_ HW_=> ?_);generalize wr.drew=w10 at HO_0 HK HB GG8 HQ11 HQ12 hf8_0 hf8_1 hf9_0 hf9_1 hx102_0 hx102_1 hx103_0 hx103_1 hx8_0 hx8_1 hx9_0 hx9_1 hHeld ⊢;have hMARK:x2_1<x3_1:=of_decide_eq_true (by assumption)
        have hMARK2:0<=x2_1:=of_decide_eq_true (by assumption);have hne1:(x3_1:Int).toNat*2≠(x2_1:Int).toNat*2:=by omega
        have hne2:(x2_1:Int).toNat*2≠(x3_1:Int).toNat*2:=by omega
        have hne3:(x3_1:Int).toNat*2+1≠(x2_1:Int).toNat*2:=by omega
        have hne4:(x3_1:Int).toNat*2≠(x2_1:Int).toNat*2+1:=by omega
        have hne5:(x3_1:Int).toNat≠(x2_1:Int).toNat:=by omega
        have hne6:(x2_1:Int).toNat≠(x3_1:Int).toNat:=by omega
        obtain⟨ceM,hclM,hMM,hccM,hfrM⟩:=Kd.R_elem HO_0.out z68 (x3_1:Int) (by omega) (of_decide_eq_true (by assumption));obtain rfl:=k68_openM hMM;have hfM0:World.frozen? _ ⟨go8,(x3_1:Int).toNat*2,none⟩=false:=hfrM 0;have hfM1:World.frozen? _ ⟨go8,(x3_1:Int).toNat*2+1,none⟩=false:=hfrM 1;clear hclM hccM hfrM hMM hMARK hMARK2;refine pure_ (i:=0) (N:=some 14) (v:= ?_) (a' := ?_) #[t_,f_,f_,f_,f_,f_,f_,f_,f_,f_,f_,f_,f_,f_,f_,f_] rfl rfl (any_of HT_.out (by kernel_rfl)) (fun _ _ _ h=>h) (Or.inl ⟨by rfl,?_⟩) ?_ ?_;rotate_left
        ·intro w';go_simp
         with_reducible rfl
        rotate_left
        ·simp only[Act.put,za,zb,zc,i64_w,i32_w];rfl
        refine pure_ (i:=1) (N:=some 15) (v:= ?_) (a' := ?_) #[t_,t_,f_,f_,f_,f_,f_,f_,f_,f_,f_,f_,f_,f_,f_,f_] rfl rfl (any_of HT_.out (by kernel_rfl)) (fun _ _ _ h=>h) (Or.inl ⟨by rfl,?_⟩) ?_ ?_;rotate_left
        ·intro w';go_simp
         with_reducible rfl
        rotate_left
        ·simp only[Act.put,za,zb,zc,i64_w,i32_w];rfl
        refine pure_ (i:=2) (N:=some 16) (v:= ?_) (a' := ?_) #[t_,t_,t_,f_,f_,f_,f_,f_,f_,f_,f_,f_,f_,f_,f_,f_] rfl rfl (any_of HT_.out (by kernel_rfl)) (fun _ _ _ h=>h) (Or.inl ⟨by rfl,?_⟩) ?_ ?_;rotate_left
        ·intro w';go_simp
         with_reducible rfl
        rotate_left
        ·simp only[Act.put,za,zb,zc,i64_w,i32_w];rfl
        refine pure_ (i:=3) (N:=some 17) (v:= ?_) (a' := ?_) #[t_,t_,t_,t_,f_,f_,f_,f_,f_,f_,f_,f_,f_,f_,f_,f_] rfl rfl (any_of HT_.out (by kernel_rfl)) (fun _ _ _ h=>h) (Or.inl ⟨by rfl,?_⟩) ?_ ?_;rotate_left
        ·intro w';go_simp
         with_reducible rfl
        rotate_left
        ·simp only[Act.put,za,zb,zc,i64_w,i32_w];rfl
        refine pure_ (i:=4) (N:=some 18) (v:= ?_) (a' := ?_) #[t_,t_,t_,t_,t_,f_,f_,f_,f_,f_,f_,f_,f_,f_,f_,f_] rfl rfl (any_of HT_.out (by kernel_rfl)) (fun _ _ _ h=>h) (Or.inl ⟨by rfl,?_⟩) ?_ ?_;rotate_left
        ·intro w';go_simp
         with_reducible rfl
        rotate_left
        ·simp only[Act.put,za,zb,zc,i64_w,i32_w];rfl
        refine pure_ (i:=5) (N:=some 19) (v:= ?_) (a' := ?_) #[t_,t_,t_,t_,t_,t_,f_,f_,f_,f_,f_,f_,f_,f_,f_,f_] rfl rfl (any_of HT_.out (by kernel_rfl)) (fun _ _ _ h=>h) (Or.inl ⟨by rfl,?_⟩) ?_ ?_;rotate_left
        ·intro w';go_simp
         with_reducible rfl
        rotate_left
        ·simp only[Act.put,za,zb,zc,i64_w,i32_w];rfl
        refine pure_ (i:=6) (N:=some 20) (v:= ?_) (a' := ?_) #[t_,t_,t_,t_,t_,t_,t_,f_,f_,f_,f_,f_,f_,f_,f_,f_] rfl rfl (any_of HT_.out (by kernel_rfl)) (fun _ _ _ h=>h) (Or.inl ⟨by rfl,?_⟩) ?_ ?_;rotate_left
        ·intro w';go_simp
         with_reducible rfl
        rotate_left
        ·simp only[Act.put,za,zb,zc,i64_w,i32_w];rfl
        refine pure_ (i:=8) (N:=some 22) (v:= ?_) (a' := ?_) #[t_,t_,t_,t_,t_,t_,t_,f_,t_,f_,f_,f_,f_,f_,f_,f_] rfl rfl (any_of HT_.out (by kernel_rfl)) (fun _ _ _ h=>h) (Or.inl ⟨by rfl,?_⟩) ?_ ?_;rotate_left
        ·intro w';go_simp
         with_reducible rfl
        rotate_left
        ·simp only[Act.put,za,zb,zc,i64_w,i32_w];rfl
        refine pure_ (i:=9) (N:=some 23) (v:= ?_) (a' := ?_) #[t_,t_,t_,t_,t_,t_,t_,f_,t_,t_,f_,f_,f_,f_,f_,f_] rfl rfl (any_of HT_.out (by kernel_rfl)) (fun _ _ _ h=>h) (Or.inl ⟨by rfl,?_⟩) ?_ ?_;rotate_left
        ·intro w';go_simp
         with_reducible rfl
        rotate_left
        ·simp only[Act.put,za,zb,zc,i64_w,i32_w];rfl
        refine pure_ (i:=10) (N:=some 24) (v:= ?_) (a' := ?_) #[t_,t_,t_,t_,t_,t_,t_,f_,t_,t_,t_,f_,f_,f_,f_,f_] rfl rfl (any_of HT_.out (by kernel_rfl)) (fun _ _ _ h=>h) (Or.inl ⟨by rfl,?_⟩) ?_ ?_;rotate_left
        ·intro w';go_simp
         with_reducible rfl
        rotate_left
        ·simp only[Act.put,za,zb,zc,i64_w,i32_w];rfl
        refine take_ (i:=7) (N:=some 21) (v:= ?_) (a' := ?_) #[t_,t_,t_,t_,t_,t_,t_,t_,t_,t_,t_,f_,f_,f_,f_,f_] rfl rfl (take_ofW HT_.out HW_.out (by kernel_rfl)) (fun _ _ _ h=>h) (Or.inl ⟨by rfl,?_⟩) hHeld ?_ ?_;rotate_left
        ·rintro w' ⟨s0,s1,s2,s3⟩;go_simp
         with_reducible rfl
        rotate_left
        ·simp only[Act.put,za,zb,zc,i64_w,i32_w];rfl
        refine take_ (i:=11) (N:=some 25) (v:= ?_) (a' := ?_) #[t_,t_,t_,t_,t_,t_,t_,t_,t_,t_,t_,t_,f_,f_,f_,f_] rfl rfl (take_ofW HT_.out HW_.out (by kernel_rfl)) (fun _ _ _ h=>h) (Or.inl ⟨by rfl,?_⟩) hHeld ?_ ?_;rotate_left
        ·rintro w' ⟨s0,s1,s2,s3⟩;go_simp
         with_reducible rfl
        rotate_left
        ·simp only[Act.put,za,zb,zc,i64_w,i32_w];rfl
        refine pure_ (i:=12) (N:=some 26) (v:= ?_) (a' := ?_) #[t_,t_,t_,t_,t_,t_,t_,t_,t_,t_,t_,t_,t_,f_,f_,f_] rfl rfl (any_of HT_.out (by kernel_rfl)) (fun _ _ _ h=>h) (Or.inl ⟨by rfl,?_⟩) ?_ ?_;rotate_left
        ·intro w';go_simp
         with_reducible rfl
        rotate_left
        ·simp only[Act.put,za,zb,zc,i64_w,i32_w];rfl
        refine last_ (i:=13) (N:=none) #[t_,t_,t_,t_,t_,t_,t_,t_,t_,t_,t_,t_,t_,t_,f_,f_] rfl rfl (one_of HT_.out (by kernel_rfl)) (by decide) (fun K hK=> ?_);refine skip_ (w1:= ?_) (by rfl) rfl ?_ ?_;rotate_left
        ·go_simp;rfl
        refine hK.out _ _ ?_;clear hK K;refine pure_ (i:=14) (N:=some 27) (v:= ?_) (a' := ?_) #[t_,t_,t_,t_,t_,t_,t_,t_,t_,t_,t_,t_,t_,t_,t_,f_] rfl rfl (any_of HT_.out (by kernel_rfl)) (fun _ _ _ h=>h) (Or.inl ⟨by rfl,?_⟩) ?_ ?_;rotate_left
        ·intro w';go_simp
         with_reducible rfl
        rotate_left
        ·simp only[Act.put,za,zb,zc,i64_w,i32_w];rfl
        refine last_ (i:=15) (N:=none) #[t_,t_,t_,t_,t_,t_,t_,t_,t_,t_,t_,t_,t_,t_,t_,t_] rfl rfl (one_of HT_.out (by kernel_rfl)) (by decide) (fun K hK=> ?_);refine skip_ (w1:= ?_) (by rfl) rfl ?_ ?_;rotate_left
        ·go_simp;rfl
        refine hK.out _ _ ?_;clear hK K;refine done_ (done_of HT_.out (by kernel_rfl)) ?_
        try go_wp2
        (try simp only[←hl0_1])
        go_roundg k1
        case measure=>have:=HK1.out;omega
        case rel=>exact⟨(y105),(wrap64 (x2_1+1)),(wrap64 (x3_1-1)),(by first|rfl|(simp;done)|(simp[*];done)),(by first|rfl|(simp;done)|(simp[*];done)),H',⟨by have:=HK1.out;omega⟩,⟨by(try simp only[hl0_1]);(with_reducible repeat (first|apply ze|apply zf|apply zg));exact HQ12.out⟩,⟨by repeat (first|(with_reducible first|exact HK.out|apply Kept.alloc|apply Kept.drewN|apply Kept.drew|refine Kept.setCell ?_ HMgo8.out _|refine Kept.setCell ?_ HMgo8.out _|refine Kept.setCell ?_ HMgo8.out _|refine Kept.setCell ?_ HMgo8.out _)|exact HK.out)⟩,⟨by repeat (first|(with_reducible first|exact HB.out|apply zh|apply zi|apply zj|refine zn ?_ GB8.out|refine zn ?_ GB8.out|refine zn ?_ GB8.out|refine zn ?_ GB8.out)|exact HB.out)⟩⟩
       ·rw[if_neg c7] at H;exact absurd H (by simp)
      ·rw[if_neg c6] at H;exact absurd H (by simp)
     ·rw[if_neg c5] at H;exact absurd H (by simp)
    ·rw[if_neg c4] at H;exact absurd H (by simp)
   ·rw[if_neg c3] at H;have c3b0:decide (x2_1<x3_1)=false:=decide_eq_false c3;clear c3;obtain rfl:=Option.some.inj H;go_wp2
    first|go_end0|((try simp only[Exit.inBlock,Exit.then]);refine bodyPost_ret (results_none rfl _ _ _) rfl ?_)
    exact⟨by first|rfl|(simp[errW_none,errW_some]<;>rfl)|(simp[*,errW_none,errW_some]<;>rfl),(by first|exact(by(with_reducible repeat (first|apply ze|apply zf|apply zg));exact HO_0.out)|(simp only[hl0_1];exact(by(with_reducible repeat (first|apply ze|apply zf|apply zg));exact HO_0.out))),by repeat (first|(with_reducible first|exact HB.out|apply zh|apply zi|apply zj)|exact HB.out),by repeat (first|(with_reducible first|exact HK.out|apply Kept.alloc|apply Kept.drewN|apply Kept.drew)|exact HK.out)⟩
end Go.Proofs.Ytjegeghigfmkoaa.X
namespace Go.Proofs.Ytjegeghigfmkoaa.X
open Go.RowKit Go.Proofs.YtjegeghigfmkoaaW.PrintWords Go.Proofs.YtjegeghigfmkoaaW.PrintLast Go.Proofs.YtjegeghigfmkoaaW.PrintMore
attribute [local go_sem] max2_int min2_int max_two min_two max_three min_three max_four min_four   -- for this text's walks alone
set_option linter.unusedVariables false
set_option linter.unusedSimpArgs false
mutual
def window_Spans.j0:Nat ->Int ->Bool ->Int ->Int ->Int ->Option ((List (S68)))
 |0,_,_,_,_,_=>none
 |k+1,x1,x20,x107000,x107001,x107002=>if x20=true then(some ([]:List (S68))) else(if x107000=1 then((window_below.f x1 x107001).bind fun t107=>(some (([(⟨t107,wrap64 (t107+x107001)⟩:S68)]:List (S68))))) else(if x107000=3 then(some (([(⟨x1,wrap64 (x1+x107001)⟩:S68)]:List (S68)))) else(if x107000=2 then((window_below.f x1 x107002).bind fun t114=>(window_Spans.l0 k x1 ([]:List (S68)) t114 x107000 x107001 x107002)) else(some ([]:List (S68))))))
def window_Spans.l0:Nat ->Int ->List (S68) ->Int ->Int ->Int ->Int ->Option ((List (S68)))
 |0,_,_,_,_,_,_=>none
 |k+1,x1,x6,x7,x107000,x107001,x107002=>if (wrap64 (x7+x107001))>x1 then(if (x6.length:Int)<64 then(if x6.length<8796093022208 then(window_Spans.l0 k x1 (x6++[(⟨x7,wrap64 (x7+x107001)⟩:S68)]) (wrap64 (x7-x107002)) x107000 x107001 x107002) else(none)) else((api_Span.f k x6).bind fun t118=>(some t118))) else((api_Span.f k x6).bind fun t119=>(some t119))
end
def window_Spans.f (k:Nat) (a0_0:Int) (a0_1:Int) (a0_2:Int) (a1:Int):Option ((List (S68))):=if a0_1<1 then(window_Spans.j0 k a1 true a0_0 a0_1 a0_2) else(if a0_0=2 then(window_Spans.j0 k a1 (decide (a0_2<1)) a0_0 a0_1 a0_2) else(window_Spans.j0 k a1 false a0_0 a0_1 a0_2))
set_option maxHeartbeats 8000000 in
set_option maxRecDepth 100000 in
theorem window_Spans.calls (k:Nat) (a0_0:Int) (a0_1:Int) (a0_2:Int) (a1:Int) (r:List (S68)) (w:World) (h:window_Spans.f k a0_0 a0_1 a0_2 a1=some r):
  Calls Try.prog 59 #[.agg #[.int .i64 a0_0,.int .i64 a0_1,.int .i64 a0_2],.int .i64 a1] w fun e w'=> ∃v0_:Value,e= .returned (v0_)/\Kd.R k68 68 w' w.heap.size (fun _=>True) v0_ r/\Below w.heap.size w w' :=by
 have hu23:=Try.underlying23;have hu68:=Try.underlying68;have HB:=zd (Below.refl w.heap.size w);have H:(if a0_1<1 then(window_Spans.j0 k a1 true a0_0 a0_1 a0_2) else(if a0_0=2 then(window_Spans.j0 k a1 (decide (a0_2<1)) a0_0 a0_1 a0_2) else(window_Spans.j0 k a1 false a0_0 a0_1 a0_2)))=some r:=h;clear h;have HC3:=zd H;clear H;go_enter Try.func59,Try.ntmps59;go_upto_region 1 with (first|((with_reducible refine gate_dst (N:=2) rfl ?_);(try(refine gate_guard (by rfl) ?_;dsimp only));refine box_event ?hg (N:=2) ?hd (cs:= #[.int .i64 a0_0,.int .i64 a0_1,.int .i64 a0_2]) (t:=23) ?hr ?_;(case hd=>rfl);(case hg=>rfl);(case hr=>first|(go_simp;done)|(go_simp;rfl));intro gb106 hg w4 hbox hb;have n0_:=zd (zs (by repeat (first|(with_reducible first|exact HB.out|apply zh|apply zi|apply zj)|exact HB.out)) hb);have n1_:=zd (hbox);have n2_:=zd ((by rw[hg];exact(below_size (by repeat (first|(with_reducible first|exact HB.out|apply zh|apply zi|apply zj)|exact HB.out))):w.heap.size<=gb106));have n3_:=zd ((by rw[hg];exact(below_size (by repeat (first|(with_reducible first|exact HB.out|apply zh|apply zi|apply zj)|exact HB.out))):w.heap.size<=gb106));clear HB;have HB:=n0_;have BK106:=n1_;have GW106:=n2_;have GE106:=n3_;clear n0_ n1_ n2_ n3_;clear hb hbox hg))
 (try simp only[Act.put,za,zb,zc])
 go_cut [20] (fun v20 wc=> ∃(kq:Nat) (x20_2:Bool),v20= .bool x20_2/\Aside0 (window_Spans.j0 kq a1 x20_2 a0_0 a0_1 a0_2=some r)/\Aside0 (kq<=k)/\Aside0 (wc.heap[gb106]? =some (.cells #[.int .i64 a0_0,.int .i64 a0_1,.int .i64 a0_2] 23 (0,0)))/\Aside0 (Below w.heap.size w wc))
 case first=>
  have H:=HC3.out;clear HC3;by_cases c5:a0_1<1
  ·rw[if_pos c5] at H;have c5b0:decide (a0_1<1)=true:=decide_eq_true c5;clear c5
   (first|rw[c5b0]|(simp only[i64_w,i32_w];rw[c5b0])|skip)
   have H' :=zd H;clear H;have hcz6_0:w4.cell? ⟨gb106,0,none⟩=some (.int .i64 a0_0):=(zo BK106.out 0).trans rfl;have hcz6_1:w4.cell? ⟨gb106,1,none⟩=some (.int .i64 a0_1):=(zo BK106.out 1).trans rfl;have hcz6_2:w4.cell? ⟨gb106,2,none⟩=some (.int .i64 a0_2):=(zo BK106.out 2).trans rfl;have hfz6_0:=blk_frozen BK106.out 0;have hfz6_1:=blk_frozen BK106.out 1;have hfz6_2:=blk_frozen BK106.out 2;go_wp2;go_meet
   case rel=>exact⟨_,(true),(by first|rfl|(simp;done)|(simp[*];done)),H',⟨by first|omega|exact Nat.le_refl _⟩,⟨by(with_reducible repeat (first|refine zk ?_ _|refine zl ?_|refine zm ?_ _));exact BK106.out⟩,⟨by repeat (first|(with_reducible first|exact HB.out|apply zh|apply zi|apply zj|refine zn ?_ GE106.out)|exact HB.out)⟩⟩
  ·rw[if_neg c5] at H;have c5b0:decide (a0_1<1)=false:=decide_eq_false c5;clear c5
   (first|rw[c5b0]|(simp only[i64_w,i32_w];rw[c5b0])|skip)
   by_cases c7:a0_0=2
   ·rw[if_pos c7] at H;have c7b0:(a0_0==2)=true:=beq_iff_eq.mpr c7;have c7b1:(a0_0 !=2)=false:=bne_eq_false_iff_eq.mpr c7;clear c7;have H' :=zd H;clear H;have hcz8_0:w4.cell? ⟨gb106,0,none⟩=some (.int .i64 a0_0):=(zo BK106.out 0).trans rfl;have hcz8_1:w4.cell? ⟨gb106,1,none⟩=some (.int .i64 a0_1):=(zo BK106.out 1).trans rfl;have hcz8_2:w4.cell? ⟨gb106,2,none⟩=some (.int .i64 a0_2):=(zo BK106.out 2).trans rfl;have hfz8_0:=blk_frozen BK106.out 0;have hfz8_1:=blk_frozen BK106.out 1;have hfz8_2:=blk_frozen BK106.out 2;go_wp2;go_meet
    case rel=>exact⟨_,(decide (a0_2<1)),(by first|rfl|(simp;done)|(simp[*];done)),H',⟨by first|omega|exact Nat.le_refl _⟩,⟨by(with_reducible repeat (first|refine zk ?_ _|refine zl ?_|refine zm ?_ _));exact BK106.out⟩,⟨by repeat (first|(with_reducible first|exact HB.out|apply zh|apply zi|apply zj|refine zn ?_ GE106.out)|exact HB.out)⟩⟩
   ·rw[if_neg c7] at H;have c7b0:(a0_0==2)=false:=beq_eq_false_iff_ne.mpr c7;have c7b1:(a0_0 !=2)=true:=bne_iff_ne.mpr c7;have H' :=zd H;clear H;have hcz9_0:w4.cell? ⟨gb106,0,none⟩=some (.int .i64 a0_0):=(zo BK106.out 0).trans rfl;have hcz9_1:w4.cell? ⟨gb106,1,none⟩=some (.int .i64 a0_1):=(zo BK106.out 1).trans rfl;have hcz9_2:w4.cell? ⟨gb106,2,none⟩=some (.int .i64 a0_2):=(zo BK106.out 2).trans rfl;have hfz9_0:=blk_frozen BK106.out 0;have hfz9_1:=blk_frozen BK106.out 1;have hfz9_2:=blk_frozen BK106.out 2;go_wp2;go_meet
    case rel=>exact⟨_,(false),(by first|rfl|(simp;done)|(simp[*];done)),H',⟨by first|omega|exact Nat.le_refl _⟩,⟨by(with_reducible repeat (first|refine zk ?_ _|refine zl ?_|refine zm ?_ _));exact BK106.out⟩,⟨by repeat (first|(with_reducible first|exact HB.out|apply zh|apply zi|apply zj|refine zn ?_ GE106.out)|exact HB.out)⟩⟩
 case rest =>
  clear HC3
  try clear p2;try clear c5;try clear c5b0;try clear c7;try clear c7b0;try clear c7b1;try clear hcz6_0;try clear hcz6_1;try clear hcz6_2;try clear hcz8_0;try clear hcz8_1;try clear hcz8_2;try clear hcz9_0;try clear hcz9_1;try clear hcz9_2;try clear hfz6_0;try clear hfz6_1;try clear hfz6_2;try clear hfz8_0;try clear hfz8_1;try clear hfz8_2;try clear hfz9_0;try clear hfz9_1;try clear hfz9_2
  obtain⟨kq,x20_2,rfl,HA,HJ2,BK106,HB⟩:=hcut;cases kq with
  |zero=>exact absurd HA.out (by simp[window_Spans.j0])
  | succ kj2=>
   have H:=HA.out;clear HA;simp only[window_Spans.j0] at H;by_cases c10:x20_2=true
   ·subst c10;have H1:(some ([]:List (S68)))=some r:=by rw[if_pos rfl] at H;exact H
    clear H;have H:=H1;clear H1;obtain rfl:=Option.some.inj H;go_wp2;go_ret;exact⟨_,by first|rfl|(simp[errW_none,errW_some]<;>rfl)|(simp[*,errW_none,errW_some]<;>rfl),by first|exact Kd.R_nil _ _ _ _ _|exact Kd.N_nil _ _ _ _ _|exact Kd.V_nil _ _ _ _ _|exact Kd.Q_nil _ _ _ _ _|exact Kd.S_nil _ _ _ _ _,by repeat (first|(with_reducible first|exact HB.out|apply zh|apply zi|apply zj|refine zn ?_ GE106.out)|exact HB.out)⟩
   ·replace c10:=Bool.eq_false_iff.mpr c10;subst c10;have H1:(if a0_0=1 then((window_below.f a1 a0_1).bind fun t107=>(some (([(⟨t107,wrap64 (t107+a0_1)⟩:S68)]:List (S68))))) else(if a0_0=3 then(some (([(⟨a1,wrap64 (a1+a0_1)⟩:S68)]:List (S68)))) else(if a0_0=2 then((window_below.f a1 a0_2).bind fun t114=>(window_Spans.l0 kj2 a1 ([]:List (S68)) t114 a0_0 a0_1 a0_2)) else(some ([]:List (S68))))))=some r:=by rw[if_neg (show ¬(false=true) by decide)] at H;exact H
    clear H;have H:=H1;clear H1;by_cases c11:a0_0=1
    ·rw[if_pos c11] at H;have c11b0:(a0_0==1)=true:=beq_iff_eq.mpr c11;have c11b1:(a0_0 !=1)=false:=bne_eq_false_iff_eq.mpr c11;clear c11;replace H:=Option.bind_eq_some_iff.mp H;obtain⟨t107,A120,H⟩:=H;replace H:(some (([(⟨t107,wrap64 (t107+a0_1)⟩:S68)]:List (S68))))=some r:=H;have A12:=zd A120;clear A120;obtain⟨y108,hy108⟩: ∃y_:List (S68),y_=(([(⟨t107,wrap64 (t107+a0_1)⟩:S68)]:List (S68))):=⟨_,rfl⟩
     replace H:(some y108)=some r:=by first|(rw[hy108];with_reducible exact H)|(have H2_:=(Option.bind_some _ _).symm.trans H;rw[hy108];with_reducible exact H2_)|(have H2_:=(Option.bind_some _ _).symm.trans H;with_reducible exact H2_)|with_reducible exact H|(rw[hy108];exact H)|exact H
     have Ny108:=zd hy108;clear hy108;obtain rfl:=Option.some.inj H;have hcz13_0:wc.cell? ⟨gb106,0,none⟩=some (.int .i64 a0_0):=(zo BK106.out 0).trans rfl;have hcz13_1:wc.cell? ⟨gb106,1,none⟩=some (.int .i64 a0_1):=(zo BK106.out 1).trans rfl;have hcz13_2:wc.cell? ⟨gb106,2,none⟩=some (.int .i64 a0_2):=(zo BK106.out 2).trans rfl;have hfz13_0:=blk_frozen BK106.out 0;have hfz13_1:=blk_frozen BK106.out 1;have hfz13_2:=blk_frozen BK106.out 2;go_wp2_with (first|((with_reducible refine gate_callee (f:=78) rfl ?_);refine goesL_ (some 28) rfl rfl Try.func78 (by kernel_rfl) rfl #[.int .i64 a1,.int .i64 a0_1] rfl (by(try simp only[List.map_toArray,List.map_cons,List.map_nil]);first|done|rfl|(simp only[List.length_drop,List.length_take];rfl)) ?_;(with_reducible refine(window_below.calls a1 a0_1 t107 _ A12.out).mono ?_);rintro e w' ⟨rfl,⟨nd,rfl⟩⟩;refine⟨_,rfl,?_⟩)|((with_reducible refine gate_dst (N:=35) rfl ?_);(try(refine gate_guard (by rfl) ?_;dsimp only));refine Kd.R_lit k68 _ 68 ?hg (N:=35) ?hd (xs:=([(⟨t107,wrap64 (t107+a0_1)⟩:S68)]:List (S68))) (inner:=[.int .i64 t107,.int .i64 (wrap64 (t107+a0_1))]) (ok:=fun _=>True) (okp:=fun _=>True) ?hr ?hp (fun _ hk=>hk) trivial (Below.refl _ _) (Nat.le_refl _) (by simp) ?_;(case hd=>rfl);(case hg=>rfl);(case hr=>first|(go_simp;done)|(go_simp;rfl));(case hp=>exact(Reps.c2 (show Kd.M k68 _ _ _ (⟨t107,wrap64 (t107+a0_1)⟩:S68) [.int .i64 t107,.int .i64 (wrap64 (t107+a0_1))] from(k68_mkM _ _ _ (⟨t107,wrap64 (t107+a0_1)⟩:S68))) (Reps.none _ _)));intro v109 w14 ho15 hb hg_ hnew_;clear hg_ hnew_;(first|rw[←Ny108.out] at ho15|(simp only[Int.reduceToNat] at ho15;rw[←Ny108.out] at ho15));have n0_:=zd (Kd.R_lower ho15 (below_size (by repeat (first|(with_reducible first|exact HB.out|apply zh|apply zi|apply zj|refine zn ?_ GE106.out)|exact HB.out))));have n1_:=zd (zp (g:=gb106) (o:= .cells #[.int .i64 a0_0,.int .i64 a0_1,.int .i64 a0_2] 23 (0,0)) (by(with_reducible repeat (first|refine zk ?_ _|refine zl ?_|refine zm ?_ _));exact BK106.out) hb);have n2_:=zd (zs (by repeat (first|(with_reducible first|exact HB.out|apply zh|apply zi|apply zj|refine zn ?_ GE106.out)|exact HB.out)) hb);clear BK106;clear HB;have HO110:=n0_;have BK106:=n1_;have HB:=n2_;clear n0_ n1_ n2_;clear hb ho15));go_ret;exact⟨_,by first|rfl|(simp[errW_none,errW_some]<;>rfl)|(simp[*,errW_none,errW_some]<;>rfl),by(with_reducible repeat (first|apply ze|apply zf|apply zg));exact HO110.out,by repeat (first|(with_reducible first|exact HB.out|apply zh|apply zi|apply zj|refine zn ?_ GE106.out)|exact HB.out)⟩
    ·rw [if_neg c11] at H;have c11b0:(a0_0==1)=false:=beq_eq_false_iff_ne.mpr c11;have c11b1:(a0_0 !=1)=true:=bne_iff_ne.mpr c11;by_cases c16:a0_0=3
     ·rw[if_pos c16] at H;have c16b0:(a0_0==3)=true:=beq_iff_eq.mpr c16;have c16b1:(a0_0 !=3)=false:=bne_eq_false_iff_eq.mpr c16;clear c16;obtain⟨y111,hy111⟩: ∃y_:List (S68),y_=(([(⟨a1,wrap64 (a1+a0_1)⟩:S68)]:List (S68))):=⟨_,rfl⟩
      replace H:(some y111)=some r:=by first|(rw[hy111];with_reducible exact H)|(have H2_:=(Option.bind_some _ _).symm.trans H;rw[hy111];with_reducible exact H2_)|(have H2_:=(Option.bind_some _ _).symm.trans H;with_reducible exact H2_)|with_reducible exact H|(rw[hy111];exact H)|exact H
      have Ny111:=zd hy111;clear hy111;obtain rfl:=Option.some.inj H;have hcz17_0:wc.cell? ⟨gb106,0,none⟩=some (.int .i64 a0_0):=(zo BK106.out 0).trans rfl;have hcz17_1:wc.cell? ⟨gb106,1,none⟩=some (.int .i64 a0_1):=(zo BK106.out 1).trans rfl;have hcz17_2:wc.cell? ⟨gb106,2,none⟩=some (.int .i64 a0_2):=(zo BK106.out 2).trans rfl;have hfz17_0:=blk_frozen BK106.out 0;have hfz17_1:=blk_frozen BK106.out 1;have hfz17_2:=blk_frozen BK106.out 2;go_wp2_with (first|((with_reducible refine gate_dst (N:=44) rfl ?_);(try(refine gate_guard (by rfl) ?_;dsimp only));refine Kd.R_lit k68 _ 68 ?hg (N:=44) ?hd (xs:=([(⟨a1,wrap64 (a1+a0_1)⟩:S68)]:List (S68))) (inner:=[.int .i64 a1,.int .i64 (wrap64 (a1+a0_1))]) (ok:=fun _=>True) (okp:=fun _=>True) ?hr ?hp (fun _ hk=>hk) trivial (Below.refl _ _) (Nat.le_refl _) (by simp) ?_;(case hd=>rfl);(case hg=>rfl);(case hr=>first|(go_simp;done)|(go_simp;rfl));(case hp=>exact(Reps.c2 (show Kd.M k68 _ _ _ (⟨a1,wrap64 (a1+a0_1)⟩:S68) [.int .i64 a1,.int .i64 (wrap64 (a1+a0_1))] from(k68_mkM _ _ _ (⟨a1,wrap64 (a1+a0_1)⟩:S68))) (Reps.none _ _)));intro v112 w18 ho19 hb hg_ hnew_;clear hg_ hnew_;(first|rw[←Ny111.out] at ho19|(simp only[Int.reduceToNat] at ho19;rw[←Ny111.out] at ho19));have n0_:=zd (Kd.R_lower ho19 (below_size (by repeat (first|(with_reducible first|exact HB.out|apply zh|apply zi|apply zj|refine zn ?_ GE106.out)|exact HB.out))));have n1_:=zd (zp (g:=gb106) (o:= .cells #[.int .i64 a0_0,.int .i64 a0_1,.int .i64 a0_2] 23 (0,0)) (by(with_reducible repeat (first|refine zk ?_ _|refine zl ?_|refine zm ?_ _));exact BK106.out) hb);have n2_:=zd (zs (by repeat (first|(with_reducible first|exact HB.out|apply zh|apply zi|apply zj|refine zn ?_ GE106.out)|exact HB.out)) hb);clear BK106;clear HB;have HO113:=n0_;have BK106:=n1_;have HB:=n2_;clear n0_ n1_ n2_;clear hb ho19));go_ret;exact⟨_,by first|rfl|(simp[errW_none,errW_some]<;>rfl)|(simp[*,errW_none,errW_some]<;>rfl),by(with_reducible repeat (first|apply ze|apply zf|apply zg));exact HO113.out,by repeat (first|(with_reducible first|exact HB.out|apply zh|apply zi|apply zj|refine zn ?_ GE106.out)|exact HB.out)⟩
     ·rw [if_neg c16] at H;have c16b0:(a0_0==3)=false:=beq_eq_false_iff_ne.mpr c16;have c16b1:(a0_0 !=3)=true:=bne_iff_ne.mpr c16;by_cases c20:a0_0=2
      ·rw [if_pos c20] at H;have c20b0:(a0_0==2)=true:=beq_iff_eq.mpr c20;have c20b1:(a0_0 !=2)=false:=bne_eq_false_iff_eq.mpr c20;clear c20;replace H:=Option.bind_eq_some_iff.mp H;obtain⟨t114,A210,H⟩:=H;replace H:(window_Spans.l0 kj2 a1 ([]:List (S68)) t114 a0_0 a0_1 a0_2)=some r:=H;have A21:=zd A210;clear A210;have H' :=zd H;clear H;have hcz22_0:wc.cell? ⟨gb106,0,none⟩=some (.int .i64 a0_0):=(zo BK106.out 0).trans rfl;have hcz22_1:wc.cell? ⟨gb106,1,none⟩=some (.int .i64 a0_1):=(zo BK106.out 1).trans rfl;have hcz22_2:wc.cell? ⟨gb106,2,none⟩=some (.int .i64 a0_2):=(zo BK106.out 2).trans rfl;have hfz22_0:=blk_frozen BK106.out 0;have hfz22_1:=blk_frozen BK106.out 1;have hfz22_2:=blk_frozen BK106.out 2;go_wp2_with (first|((with_reducible refine gate_callee (f:=78) rfl ?_);refine goesL_ (some 50) rfl rfl Try.func78 (by kernel_rfl) rfl #[.int .i64 a1,.int .i64 a0_2] rfl (by(try simp only[List.map_toArray,List.map_cons,List.map_nil]);first|done|rfl|(simp only[List.length_drop,List.length_take];rfl)) ?_;(with_reducible refine(window_below.calls a1 a0_2 t114 _ A21.out).mono ?_);rintro e w' ⟨rfl,⟨nd,rfl⟩⟩;refine⟨_,rfl,?_⟩));go_loopg [6,7] kj2 (fun kq v6 v7 w'=> ∃(x6_2:List (S68)) (x7_2:Int),v7= .int .i64 x7_2/\Aside0 (window_Spans.l0 kq a1 x6_2 x7_2 a0_0 a0_1 a0_2=some r)/\Aside0 (kq<=kj2)/\Aside0 (Kd.R k68 68 w' w.heap.size (fun _=>True) v6 x6_2)/\Aside0 (w'.heap[gb106]? =some (.cells #[.int .i64 a0_0,.int .i64 a0_1,.int .i64 a0_2] 23 (0,0)))/\Aside0 (Below w.heap.size w w'))
       case atStart=>exact⟨(([]:List (S68))),(t114),(by first|rfl|(simp;done)|(simp[*];done)),H',⟨Nat.le_refl _⟩,⟨by first|exact Kd.R_nil _ _ _ _ _|exact Kd.N_nil _ _ _ _ _|exact Kd.V_nil _ _ _ _ _|exact Kd.Q_nil _ _ _ _ _|exact Kd.S_nil _ _ _ _ _⟩,⟨by(with_reducible repeat (first|refine zk ?_ _|refine zl ?_|refine zm ?_ _));exact BK106.out⟩,⟨by repeat (first|(with_reducible first|exact HB.out|apply zh|apply zi|apply zj|refine zn ?_ GE106.out)|exact HB.out)⟩⟩
       case round=>
        clear H'
        try clear c1;try clear c2;try clear p2;try clear c5;try clear c5b0;try clear p6;try clear c7;try clear c7b0;try clear c7b1;try clear c10;try clear c11;try clear c11b0;try clear c11b1;try clear c16;try clear c16b0;try clear c16b1;try clear c20;try clear c20b0;try clear c20b1;try clear hcz13_0;try clear hcz13_1;try clear hcz13_2;try clear hcz17_0;try clear hcz17_1;try clear hcz17_2;try clear hcz22_0;try clear hcz22_1;try clear hcz22_2;try clear hcz6_0;try clear hcz6_1;try clear hcz6_2;try clear hcz8_0;try clear hcz8_1;try clear hcz8_2;try clear hcz9_0;try clear hcz9_1;try clear hcz9_2;try clear hfz13_0;try clear hfz13_1;try clear hfz13_2;try clear hfz17_0;try clear hfz17_1;try clear hfz17_2;try clear hfz22_0;try clear hfz22_1;try clear hfz22_2;try clear hfz6_0;try clear hfz6_1;try clear hfz6_2;try clear hfz8_0;try clear hfz8_1;try clear hfz8_2;try clear hfz9_0;try clear hfz9_1;try clear hfz9_2;try clear p2
        obtain⟨x6_2,x7_2,rfl,HA,HK2,HO_6,BK106,HB⟩:=hrel;cases gk with
        |zero=>exact absurd HA.out (by simp[window_Spans.l0])
        | succ k2=>
         have H:=HA.out;clear HA;simp only[window_Spans.l0] at H;by_cases c23:(wrap64 (x7_2+a0_1))>a1
         ·rw[if_pos c23] at H;have c23b0:decide (a1<(wrap64 (x7_2+a0_1)))=true:=decide_eq_true c23;clear c23;by_cases c24:(x6_2.length:Int)<64
          ·rw[if_pos c24] at H;have c24b0:decide ((x6_2.length:Int)<64)=true:=decide_eq_true c24;have c24b1:decide (x6_2.length<64)=true:=decide_eq_true (by omega);clear c24;by_cases c25:x6_2.length<8796093022208
           ·rw[if_pos c25] at H;have LMc25:=zd c25;clear c25;obtain⟨y115,hy115⟩: ∃y_:List (S68),y_=(x6_2++[(⟨x7_2,wrap64 (x7_2+a0_1)⟩:S68)]):=⟨_,rfl⟩
            replace H:(window_Spans.l0 k2 a1 y115 (wrap64 (x7_2-a0_2)) a0_0 a0_1 a0_2)=some r:=by first|(rw[hy115];with_reducible exact H)|(have H2_:=(Option.bind_some _ _).symm.trans H;rw[hy115];with_reducible exact H2_)|(have H2_:=(Option.bind_some _ _).symm.trans H;with_reducible exact H2_)|with_reducible exact H|(rw[hy115];exact H)|exact H
            have Ny115:=zd hy115;clear hy115;have H' :=zd H;clear H;have hcz26_0:wr.cell? ⟨gb106,0,none⟩=some (.int .i64 a0_0):=(zo BK106.out 0).trans rfl;have hcz26_1:wr.cell? ⟨gb106,1,none⟩=some (.int .i64 a0_1):=(zo BK106.out 1).trans rfl;have hcz26_2:wr.cell? ⟨gb106,2,none⟩=some (.int .i64 a0_2):=(zo BK106.out 2).trans rfl;have hfz26_0:=blk_frozen BK106.out 0;have hfz26_1:=blk_frozen BK106.out 1;have hfz26_2:=blk_frozen BK106.out 2;obtain⟨Ao27,co27,eo27⟩:=Kd.R_slice HO_6.out;subst eo27;go_wp2_with (first|((with_reducible refine gate_builtin (b:= .append) (xs:= #[.tmp 66,.tmp 73]) rfl ?_);(try(refine gate_guard (by rfl) ?_;dsimp only));at_builtin;refine Kd.R_append k68 (w0:=w) w.heap.size rfl (.tmp 66) (.tmp 73) 88 68 (.agg #[(.int .i64 0),(.int .i64 0)]) 16 rfl Try.underlying88 info68 rfl (by decide) (by omega) (.slice Ao27 x6_2.length co27) x6_2 (⟨x7_2,wrap64 (x7_2+a0_1)⟩:S68) [.int .i64 x7_2,.int .i64 (wrap64 (x7_2+a0_1))] (fun _=>True) (fun _=>False) rfl rfl ?aP (fun _ hk=>hk.elim) ?aF ?aO ?aB ?aS ?aL ?_;(case aP=>exact k68_mkM _ _ _ (⟨x7_2,wrap64 (x7_2+a0_1)⟩:S68));(case aB=>exact(by repeat (first|(with_reducible first|exact HB.out|apply zh|apply zi|apply zj|refine zn ?_ GE106.out)|exact HB.out)));(case aF=>exact(fun _ _=>trivial));(case aO=>exact(by(with_reducible repeat (first|apply ze|apply zf|apply zg));exact HO_6.out));(case aS=>exact(below_size (by repeat (first|(with_reducible first|exact HB.out|apply zh|apply zi|apply zj|refine zn ?_ GE106.out)|exact HB.out))));(case aL=>have:=LMc25.out;omega);intro v116 w28 ho hb hg hat;rw[←Ny115.out] at ho;have n0_:=zd (blk_grown (g:=gb106) (o:= .cells #[.int .i64 a0_0,.int .i64 a0_1,.int .i64 a0_2] 23 (0,0)) (by(with_reducible repeat (first|refine zk ?_ _|refine zl ?_|refine zm ?_ _));exact BK106.out) hg (Kd.R_ne HO_6.out BK106.out (by decide)));have n1_:=zd (hb);have n2_:=zd (ho);clear BK106;clear HB;clear HO_6;have BK106:=n0_;have HB:=n1_;have HO117:=n2_;clear n0_ n1_ n2_;clear ho hb hg hat;have hcz29_0:w28.cell? ⟨gb106,0,none⟩=some (.int .i64 a0_0):=(zo BK106.out 0).trans rfl;have hcz29_1:w28.cell? ⟨gb106,1,none⟩=some (.int .i64 a0_1):=(zo BK106.out 1).trans rfl;have hcz29_2:w28.cell? ⟨gb106,2,none⟩=some (.int .i64 a0_2):=(zo BK106.out 2).trans rfl;have hfz29_0:=blk_frozen BK106.out 0;have hfz29_1:=blk_frozen BK106.out 1;have hfz29_2:=blk_frozen BK106.out 2));go_roundg k2
            case measure=>have:=HJ2.out;have:=HK2.out;omega
            case rel=>exact⟨(y115),(wrap64 (x7_2-a0_2)),(by first|rfl|(simp;done)|(simp[*];done)),H',⟨by have:=HJ2.out;have:=HK2.out;omega⟩,⟨by(with_reducible repeat (first|apply ze|apply zf|apply zg));exact HO117.out⟩,⟨by(with_reducible repeat (first|refine zk ?_ _|refine zl ?_|refine zm ?_ _));exact BK106.out⟩,⟨by repeat (first|(with_reducible first|exact HB.out|apply zh|apply zi|apply zj|refine zn ?_ GE106.out)|exact HB.out)⟩⟩
           ·rw[if_neg c25] at H;exact absurd H (by simp)
          ·rw[if_neg c24] at H;have c24b0:decide ((x6_2.length:Int)<64)=false:=decide_eq_false c24;have c24b1:decide (x6_2.length<64)=false:=decide_eq_false (by omega);clear c24;replace H:=Option.bind_eq_some_iff.mp H;obtain⟨t118,A300,H⟩:=H;replace H:(some t118)=some r:=H;have A30:=zd A300;clear A300;obtain rfl:=Option.some.inj H;have hcz31_0:wr.cell? ⟨gb106,0,none⟩=some (.int .i64 a0_0):=(zo BK106.out 0).trans rfl;have hcz31_1:wr.cell? ⟨gb106,1,none⟩=some (.int .i64 a0_1):=(zo BK106.out 1).trans rfl;have hcz31_2:wr.cell? ⟨gb106,2,none⟩=some (.int .i64 a0_2):=(zo BK106.out 2).trans rfl;have hfz31_0:=blk_frozen BK106.out 0;have hfz31_1:=blk_frozen BK106.out 1;have hfz31_2:=blk_frozen BK106.out 2;obtain⟨Ao32,co32,eo32⟩:=Kd.R_slice HO_6.out;subst eo32;go_wp2_with (first|((with_reducible refine gate_callee (f:=79) rfl ?_);refine goesL_ (some 76) rfl rfl Try.func79 (by kernel_rfl) rfl #[.slice Ao32 x6_2.length co32] rfl (by(try simp only[List.map_toArray,List.map_cons,List.map_nil]);first|done|rfl|(simp only[List.length_drop,List.length_take];rfl)) ?_;(with_reducible refine(api_Span.calls k2 (fun k_=>some k_=(.slice Ao32 x6_2.length co32:Value).ownBlock) (.slice Ao32 x6_2.length co32) x6_2 t118 w _ ?side1 ?side2 A30.out).mono ?_);(case side1=>repeat (first|(with_reducible first|exact HB.out|apply zh|apply zi|apply zj|refine zn ?_ GE106.out)|exact HB.out));(case side2=>exact Kd.R_tight rfl HO_6.out);rintro e w33 ⟨rfl,hy0,hb,hkp⟩;refine⟨_,rfl,?_⟩;have n0_:=zd (Kd.R_reok rfl hy0 (fun k_ e_=>HO_6.out.1 k_ e_));have n1_:=zd (blk_kept (by(with_reducible repeat (first|refine zk ?_ _|refine zl ?_|refine zm ?_ _));exact BK106.out) hkp (fun hs_=>(fun e_=>(Kd.R_ne HO_6.out BK106.out (by decide)) e_) hs_));have n2_:=zd (hb);clear HO_6;clear BK106;clear HB;have HO_6:=n0_;have BK106:=n1_;have HB:=n2_;clear n0_ n1_ n2_;(try clear hb);(try clear hkp);(try clear hy0)));go_ret;exact⟨_,by first|rfl|(simp[errW_none,errW_some]<;>rfl)|(simp[*,errW_none,errW_some]<;>rfl),by(with_reducible repeat (first|apply ze|apply zf|apply zg));exact HO_6.out,by repeat (first|(with_reducible first|exact HB.out|apply zh|apply zi|apply zj|refine zn ?_ GE106.out)|exact HB.out)⟩
         ·rw[if_neg c23] at H;have c23b0:decide (a1<(wrap64 (x7_2+a0_1)))=false:=decide_eq_false c23;clear c23;replace H:=Option.bind_eq_some_iff.mp H;obtain⟨t119,A340,H⟩:=H;replace H:(some t119)=some r:=H;have A34:=zd A340;clear A340;obtain rfl:=Option.some.inj H;have hcz35_0:wr.cell? ⟨gb106,0,none⟩=some (.int .i64 a0_0):=(zo BK106.out 0).trans rfl;have hcz35_1:wr.cell? ⟨gb106,1,none⟩=some (.int .i64 a0_1):=(zo BK106.out 1).trans rfl;have hcz35_2:wr.cell? ⟨gb106,2,none⟩=some (.int .i64 a0_2):=(zo BK106.out 2).trans rfl;have hfz35_0:=blk_frozen BK106.out 0;have hfz35_1:=blk_frozen BK106.out 1;have hfz35_2:=blk_frozen BK106.out 2;obtain⟨Ao36,co36,eo36⟩:=Kd.R_slice HO_6.out;subst eo36;go_wp2_with (first|((with_reducible refine gate_callee (f:=79) rfl ?_);refine goesL_ (some 76) rfl rfl Try.func79 (by kernel_rfl) rfl #[.slice Ao36 x6_2.length co36] rfl (by(try simp only[List.map_toArray,List.map_cons,List.map_nil]);first|done|rfl|(simp only[List.length_drop,List.length_take];rfl)) ?_;(with_reducible refine(api_Span.calls k2 (fun k_=>some k_=(.slice Ao36 x6_2.length co36:Value).ownBlock) (.slice Ao36 x6_2.length co36) x6_2 t119 w _ ?side1 ?side2 A34.out).mono ?_);(case side1=>repeat (first|(with_reducible first|exact HB.out|apply zh|apply zi|apply zj|refine zn ?_ GE106.out)|exact HB.out));(case side2=>exact Kd.R_tight rfl HO_6.out);rintro e w37 ⟨rfl,hy0,hb,hkp⟩;refine⟨_,rfl,?_⟩;have n0_:=zd (Kd.R_reok rfl hy0 (fun k_ e_=>HO_6.out.1 k_ e_));have n1_:=zd (blk_kept (by(with_reducible repeat (first|refine zk ?_ _|refine zl ?_|refine zm ?_ _));exact BK106.out) hkp (fun hs_=>(fun e_=>(Kd.R_ne HO_6.out BK106.out (by decide)) e_) hs_));have n2_:=zd (hb);clear HO_6;clear BK106;clear HB;have HO_6:=n0_;have BK106:=n1_;have HB:=n2_;clear n0_ n1_ n2_;(try clear hb);(try clear hkp);(try clear hy0)));go_ret;exact⟨_,by first|rfl|(simp[errW_none,errW_some]<;>rfl)|(simp[*,errW_none,errW_some]<;>rfl),by(with_reducible repeat (first|apply ze|apply zf|apply zg));exact HO_6.out,by repeat (first|(with_reducible first|exact HB.out|apply zh|apply zi|apply zj|refine zn ?_ GE106.out)|exact HB.out)⟩
      ·rw[if_neg c20] at H;have c20b0:(a0_0==2)=false:=beq_eq_false_iff_ne.mpr c20;have c20b1:(a0_0 !=2)=true:=bne_iff_ne.mpr c20;obtain rfl:=Option.some.inj H;have hcz38_0:wc.cell? ⟨gb106,0,none⟩=some (.int .i64 a0_0):=(zo BK106.out 0).trans rfl;have hcz38_1:wc.cell? ⟨gb106,1,none⟩=some (.int .i64 a0_1):=(zo BK106.out 1).trans rfl;have hcz38_2:wc.cell? ⟨gb106,2,none⟩=some (.int .i64 a0_2):=(zo BK106.out 2).trans rfl;have hfz38_0:=blk_frozen BK106.out 0;have hfz38_1:=blk_frozen BK106.out 1;have hfz38_2:=blk_frozen BK106.out 2;go_wp2;go_ret;exact⟨_,by first|rfl|(simp[errW_none,errW_some]<;>rfl)|(simp[*,errW_none,errW_some]<;>rfl),by first|exact Kd.R_nil _ _ _ _ _|exact Kd.N_nil _ _ _ _ _|exact Kd.V_nil _ _ _ _ _|exact Kd.Q_nil _ _ _ _ _|exact Kd.S_nil _ _ _ _ _,by repeat (first|(with_reducible first|exact HB.out|apply zh|apply zi|apply zj|refine zn ?_ GE106.out)|exact HB.out)⟩
end Go.Proofs.Ytjegeghigfmkoaa.X
namespace Go.Proofs.Ytjegeghigfmkoaa.X
open Go.RowKit Go.Proofs.YtjegeghigfmkoaaW.PrintWords Go.Proofs.YtjegeghigfmkoaaW.PrintLast Go.Proofs.YtjegeghigfmkoaaW.PrintMore
attribute [local go_sem] max2_int min2_int max_two min_two max_three min_three max_four min_four   -- for this text's walks alone
set_option linter.unusedVariables false
set_option linter.unusedSimpArgs false
theorem eqA68 (d:Nat) (w:World) (x0 y0:Int) (x1 y1:Int):
  (Op.equalIn (d+2) 68 (.agg #[.int .i64 x0,.int .i64 x1]) (.agg #[.int .i64 y0,.int .i64 y1])).run Try.prog w= .ok (x0==y0 && (x1==y1)) w:=by
 refine eqA_of Try.underlying68 (by kernel_rfl) ?_;refine eqf_cons (by rfl) (by go_simp;rfl) (by go_simp;rfl) (by go_simp) ?_;exact eqf_last (by rfl) (by go_simp;rfl) (by go_simp;rfl) (by go_simp)
end Go.Proofs.Ytjegeghigfmkoaa.X
namespace Go.Proofs.Ytjegeghigfmkoaa.X
open Go.RowKit Go.Proofs.YtjegeghigfmkoaaW.PrintWords Go.Proofs.YtjegeghigfmkoaaW.PrintLast Go.Proofs.YtjegeghigfmkoaaW.PrintMore
attribute [local go_sem] max2_int min2_int max_two min_two max_three min_three max_four min_four   -- for this text's walks alone
set_option linter.unusedVariables false
set_option linter.unusedSimpArgs false
theorem eqA70 (d:Nat) (w:World) (x0 y0:Int) (x1 y1:Int) (x2 y2:Int) (x3 y3:Int):
  (Op.equalIn (d+3) 70 (.agg #[.int .i64 x0,.int .i64 x1,.int .i64 x2,.int .i64 x3]) (.agg #[.int .i64 y0,.int .i64 y1,.int .i64 y2,.int .i64 y3])).run Try.prog w= .ok (x0==y0 && ((x1==y1 && (x2==y2)) && (x3==y3))) w:=by
 refine eqA_of Try.underlying70 (by kernel_rfl) ?_;refine eqf_cons (by rfl) (by go_simp;rfl) (by go_simp;rfl) (by go_simp) ?_;refine eqf_cons (by rfl) (by go_simp) (by go_simp) (eqA68 (d+0) w _ _ _ _) ?_;exact eqf_last (by rfl) (by go_simp;rfl) (by go_simp;rfl) (by go_simp)
end Go.Proofs.Ytjegeghigfmkoaa.X
namespace Go.Proofs.Ytjegeghigfmkoaa.X
open Go.RowKit Go.Proofs.YtjegeghigfmkoaaW.PrintWords Go.Proofs.YtjegeghigfmkoaaW.PrintLast Go.Proofs.YtjegeghigfmkoaaW.PrintMore
attribute [local go_sem] max2_int min2_int max_two min_two max_three min_three max_four min_four   -- for this text's walks alone
set_option linter.unusedVariables false
set_option linter.unusedSimpArgs false
attribute [local go_sem high] eqA70
def leathelp_Panes.l0:Nat ->List (S70) ->List (S70) ->Int ->Option (Bool)
 |0,_,_,_=>none
 |k+1,x0,x1,x5=>if x5<(x0.length:Int) then(if 0<=x5 then(if x5<(x1.length:Int) then(if (!(((rd_T70 x0 x5).f0)==((rd_T70 x1 x5).f0))||((!(((rd_T70 x0 x5).f1.f0)==((rd_T70 x1 x5).f1.f0))||(!(((rd_T70 x0 x5).f1.f1)==((rd_T70 x1 x5).f1.f1))))||(!(((rd_T70 x0 x5).f2)==((rd_T70 x1 x5).f2)))))=true then(some false) else(leathelp_Panes.l0 k x0 x1 (wrap64 (x5+1)))) else(none)) else(none)) else(some true)
def leathelp_Panes.f (k:Nat) (l0:List (S70)) (l1:List (S70)):Option (Bool):=if (l0.length:Int)=(l1.length:Int) then(leathelp_Panes.l0 k l0 l1 0) else(some false)
set_option maxHeartbeats 8000000 in
set_option maxRecDepth 100000 in
theorem leathelp_Panes.calls (k:Nat) (A0:Option Addr) (c0:Nat) (l0:List (S70)) (A1:Option Addr) (c1:Nat) (l1:List (S70)) (r:Bool) (w:World) (hr0:Kd.C k70 w A0 l0.length l0) (hc0:l0.length<=c0) (hr1:Kd.C k70 w A1 l1.length l1) (hc1:l1.length<=c1) (h:leathelp_Panes.f k l0 l1=some r):
  Calls Try.prog 25 #[.slice A0 l0.length c0,.slice A1 l1.length c1] w fun e w'=>e= .returned (.bool r)/\Drawn0 w w' :=by
 have hu70:=Try.underlying70;have HR0:=zd hr0;have HC0:=zd hc0;clear hr0 hc0;have HR1:=zd hr1;have HC1:=zd hc1;clear hr1 hc1;have H:(if (l0.length:Int)=(l1.length:Int) then(leathelp_Panes.l0 k l0 l1 0) else(some false))=some r:=h;clear h;by_cases c3:(l0.length:Int)=(l1.length:Int)
 ·rw [if_pos c3] at H;have c3b0:((l0.length:Int)==(l1.length:Int))=true:=beq_iff_eq.mpr c3;have c3b1:((l0.length:Int) !=(l1.length:Int))=false:=bne_eq_false_iff_eq.mpr c3;have c3b2:(l0.length==l1.length)=true:=by first|simpa using c3|(simp at c3 ⊢;omega)
  clear c3;have H' :=zd H;clear H;go_enter Try.func25,Try.ntmps25;go_wp2
  repeat (go_quiet (fail);try go_wp2)
  go_loopg [5] k (fun kq v5 w'=> ∃(x5_1:Int),v5= .int .i64 x5_1/\Aside0 (leathelp_Panes.l0 kq l0 l1 x5_1=some r)/\Aside0 (kq<=k)/\Drawn0 w w')
  case atStart=>exact⟨(0),(by first|rfl|(simp;done)|(simp[*];done)),H',⟨Nat.le_refl _⟩,by repeat (first|exact Drawn0.refl _|apply Drawn0.step)⟩
  case round=>
   clear H'
   try clear c1;try clear c2;try clear p2;try clear c3;try clear c3b0;try clear c3b1;try clear c3b2
   obtain⟨x5_1,rfl,HA,HK1,⟨m1,rfl⟩⟩:=hrel;cases gk with
   |zero=>exact absurd HA.out (by simp[leathelp_Panes.l0])
   | succ k1=>
    have H:=HA.out;clear HA;simp only[leathelp_Panes.l0] at H;by_cases c4:x5_1<(l0.length:Int)
    ·rw [if_pos c4] at H;have c4b0:decide (x5_1<(l0.length:Int))=true:=decide_eq_true c4;clear c4;by_cases c5:0<=x5_1
     ·rw[if_pos c5] at H;have c5b0:decide (0<=x5_1)=true:=decide_eq_true c5;clear c5;by_cases c6:x5_1<(l1.length:Int)
      ·rw[if_pos c6] at H;have c6b0:decide (x5_1<(l1.length:Int))=true:=decide_eq_true c6;clear c6;by_cases c7:(!(((rd_T70 l0 x5_1).f0)==((rd_T70 l1 x5_1).f0))||((!(((rd_T70 l0 x5_1).f1.f0)==((rd_T70 l1 x5_1).f1.f0))||(!(((rd_T70 l0 x5_1).f1.f1)==((rd_T70 l1 x5_1).f1.f1))))||(!(((rd_T70 l0 x5_1).f2)==((rd_T70 l1 x5_1).f2)))))=true
       ·rw[if_pos c7] at H;have c7b0:(!(((rd_T70 l0 x5_1).f0)==((rd_T70 l1 x5_1).f0))||((!(((rd_T70 l0 x5_1).f1.f0)==((rd_T70 l1 x5_1).f1.f0))||(!(((rd_T70 l0 x5_1).f1.f1)==((rd_T70 l1 x5_1).f1.f1))))||(!(((rd_T70 l0 x5_1).f2)==((rd_T70 l1 x5_1).f2)))))=true:=c7;clear c7;obtain rfl:=Option.some.inj H;have p270:0<=(x5_1:Int):=of_decide_eq_true (by first|(with_reducible assumption)|assumption);have q270:x5_1<(l0.length:Int):=of_decide_eq_true (by first|(with_reducible assumption)|assumption);obtain⟨ad270,e270,hx270_0,hx270_1,hx270_2,hx270_3⟩:=at_T70 HR0.out x5_1 p270 q270;cases e270;replace p270:=eq_true p270;replace q270:=eq_true q270;have p271:0<=(x5_1:Int):=of_decide_eq_true (by first|(with_reducible assumption)|assumption);have q271:x5_1<(l1.length:Int):=of_decide_eq_true (by first|(with_reducible assumption)|assumption);obtain⟨ad271,e271,hx271_0,hx271_1,hx271_2,hx271_3⟩:=at_T70 HR1.out x5_1 p271 q271;cases e271;replace p271:=eq_true p271;replace q271:=eq_true q271;go_wp2
        repeat (go_quiet (fail);try go_wp2)
        go_ret;exact⟨by first|rfl|(simp;done)|(simp[*];done),by repeat (first|exact Drawn0.refl _|apply Drawn0.step)⟩
       ·rw[if_neg c7] at H;have c7b0:(!(((rd_T70 l0 x5_1).f0)==((rd_T70 l1 x5_1).f0))||((!(((rd_T70 l0 x5_1).f1.f0)==((rd_T70 l1 x5_1).f1.f0))||(!(((rd_T70 l0 x5_1).f1.f1)==((rd_T70 l1 x5_1).f1.f1))))||(!(((rd_T70 l0 x5_1).f2)==((rd_T70 l1 x5_1).f2)))))=false:=by simpa using c7
        clear c7;have H' :=zd H;clear H;have p270:0<=(x5_1:Int):=of_decide_eq_true (by first|(with_reducible assumption)|assumption);have q270:x5_1<(l0.length:Int):=of_decide_eq_true (by first|(with_reducible assumption)|assumption);obtain⟨ad270,e270,hx270_0,hx270_1,hx270_2,hx270_3⟩:=at_T70 HR0.out x5_1 p270 q270;cases e270;replace p270:=eq_true p270;replace q270:=eq_true q270;have p271:0<=(x5_1:Int):=of_decide_eq_true (by first|(with_reducible assumption)|assumption);have q271:x5_1<(l1.length:Int):=of_decide_eq_true (by first|(with_reducible assumption)|assumption);obtain⟨ad271,e271,hx271_0,hx271_1,hx271_2,hx271_3⟩:=at_T70 HR1.out x5_1 p271 q271;cases e271;replace p271:=eq_true p271;replace q271:=eq_true q271;go_wp2
        repeat (go_quiet (fail);try go_wp2)
        go_roundg k1
        case measure=>have:=HK1.out;omega
        case rel=>exact⟨(wrap64 (x5_1+1)),(by first|rfl|(simp;done)|(simp[*];done)),H',⟨by have:=HK1.out;omega⟩,by repeat (first|exact Drawn0.refl _|apply Drawn0.step)⟩
      ·rw[if_neg c6] at H;exact absurd H (by simp)
     ·rw[if_neg c5] at H;exact absurd H (by simp)
    ·rw[if_neg c4] at H;have c4b0:decide (x5_1<(l0.length:Int))=false:=decide_eq_false c4;clear c4;obtain rfl:=Option.some.inj H;go_wp2
     repeat (go_quiet (fail);try go_wp2)
     go_ret;exact⟨by first|rfl|(simp;done)|(simp[*];done),by repeat (first|exact Drawn0.refl _|apply Drawn0.step)⟩
 ·rw[if_neg c3] at H;have c3b0:((l0.length:Int)==(l1.length:Int))=false:=beq_eq_false_iff_ne.mpr c3;have c3b1:((l0.length:Int) !=(l1.length:Int))=true:=bne_iff_ne.mpr c3;have c3b2:(l0.length==l1.length)=false:=by first|simpa using c3|(simp at c3 ⊢;omega)
  obtain rfl:=Option.some.inj H;go_enter Try.func25,Try.ntmps25;go_wp2
  repeat (go_quiet (fail);try go_wp2)
  go_ret;exact⟨by first|rfl|(simp;done)|(simp[*];done),by repeat (first|exact Drawn0.refl _|apply Drawn0.step)⟩
end Go.Proofs.Ytjegeghigfmkoaa.X
namespace Go.Proofs.Ytjegeghigfmkoaa.X
open Go.RowKit Go.Proofs.YtjegeghigfmkoaaW.PrintWords Go.Proofs.YtjegeghigfmkoaaW.PrintLast Go.Proofs.YtjegeghigfmkoaaW.PrintMore
attribute [local go_sem] max2_int min2_int max_two min_two max_three min_three max_four min_four   -- for this text's walks alone
set_option linter.unusedVariables false
set_option linter.unusedSimpArgs false
theorem eqA39 (d:Nat) (w:World) (x0 y0:Int) (x1 y1:Int) (x2 y2:Int):
  (Op.equalIn (d+2) 39 (.agg #[.int .i64 x0,.int .i64 x1,.int .i64 x2]) (.agg #[.int .i64 y0,.int .i64 y1,.int .i64 y2])).run Try.prog w= .ok (x0==y0 && (x1==y1 && (x2==y2))) w:=by
 refine eqA_of Try.underlying39 (by kernel_rfl) ?_;refine eqf_cons (by rfl) (by go_simp;rfl) (by go_simp;rfl) (by go_simp) ?_;refine eqf_cons (by rfl) (by go_simp;rfl) (by go_simp;rfl) (by go_simp) ?_;exact eqf_last (by rfl) (by go_simp;rfl) (by go_simp;rfl) (by go_simp)
end Go.Proofs.Ytjegeghigfmkoaa.X
namespace Go.Proofs.Ytjegeghigfmkoaa.X
open Go.RowKit Go.Proofs.YtjegeghigfmkoaaW.PrintWords Go.Proofs.YtjegeghigfmkoaaW.PrintLast Go.Proofs.YtjegeghigfmkoaaW.PrintMore
attribute [local go_sem] max2_int min2_int max_two min_two max_three min_three max_four min_four   -- for this text's walks alone
set_option linter.unusedVariables false
set_option linter.unusedSimpArgs false
attribute [local go_sem high] eqA39
def leathelp_Records.l0:Nat ->List (S39) ->List (S39) ->Int ->Option (Bool)
 |0,_,_,_=>none
 |k+1,x0,x1,x5=>if x5<(x0.length:Int) then(if 0<=x5 then(if x5<(x1.length:Int) then(if (!(((rd_T39 x0 x5).f0)==((rd_T39 x1 x5).f0))||(!(((rd_T39 x0 x5).f1)==((rd_T39 x1 x5).f1))||(!(((rd_T39 x0 x5).f2)==((rd_T39 x1 x5).f2)))))=true then(some false) else(leathelp_Records.l0 k x0 x1 (wrap64 (x5+1)))) else(none)) else(none)) else(some true)
def leathelp_Records.f (k:Nat) (l0:List (S39)) (l1:List (S39)):Option (Bool):=if (l0.length:Int)=(l1.length:Int) then(leathelp_Records.l0 k l0 l1 0) else(some false)
set_option maxHeartbeats 8000000 in
set_option maxRecDepth 100000 in
theorem leathelp_Records.calls (k:Nat) (A0:Option Addr) (c0:Nat) (l0:List (S39)) (A1:Option Addr) (c1:Nat) (l1:List (S39)) (r:Bool) (w:World) (hr0:Kd.C k39 w A0 l0.length l0) (hc0:l0.length<=c0) (hr1:Kd.C k39 w A1 l1.length l1) (hc1:l1.length<=c1) (h:leathelp_Records.f k l0 l1=some r):
  Calls Try.prog 18 #[.slice A0 l0.length c0,.slice A1 l1.length c1] w fun e w'=>e= .returned (.bool r)/\Drawn0 w w' :=by
 have hu39:=Try.underlying39;have HR0:=zd hr0;have HC0:=zd hc0;clear hr0 hc0;have HR1:=zd hr1;have HC1:=zd hc1;clear hr1 hc1;have H:(if (l0.length:Int)=(l1.length:Int) then(leathelp_Records.l0 k l0 l1 0) else(some false))=some r:=h;clear h;by_cases c3:(l0.length:Int)=(l1.length:Int)
 ·rw [if_pos c3] at H;have c3b0:((l0.length:Int)==(l1.length:Int))=true:=beq_iff_eq.mpr c3;have c3b1:((l0.length:Int) !=(l1.length:Int))=false:=bne_eq_false_iff_eq.mpr c3;have c3b2:(l0.length==l1.length)=true:=by first|simpa using c3|(simp at c3 ⊢;omega)
  clear c3;have H' :=zd H;clear H;go_enter Try.func18,Try.ntmps18;go_wp2
  repeat (go_quiet (fail);try go_wp2)
  go_loopg [5] k (fun kq v5 w'=> ∃(x5_1:Int),v5= .int .i64 x5_1/\Aside0 (leathelp_Records.l0 kq l0 l1 x5_1=some r)/\Aside0 (kq<=k)/\Drawn0 w w')
  case atStart=>exact⟨(0),(by first|rfl|(simp;done)|(simp[*];done)),H',⟨Nat.le_refl _⟩,by repeat (first|exact Drawn0.refl _|apply Drawn0.step)⟩
  case round=>
   clear H'
   try clear c1;try clear p2;try clear c3;try clear c3b0;try clear c3b1;try clear c3b2
   obtain⟨x5_1,rfl,HA,HK1,⟨m1,rfl⟩⟩:=hrel;cases gk with
   |zero=>exact absurd HA.out (by simp[leathelp_Records.l0])
   | succ k1=>
    have H:=HA.out;clear HA;simp only[leathelp_Records.l0] at H;by_cases c4:x5_1<(l0.length:Int)
    ·rw [if_pos c4] at H;have c4b0:decide (x5_1<(l0.length:Int))=true:=decide_eq_true c4;clear c4;by_cases c5:0<=x5_1
     ·rw[if_pos c5] at H;have c5b0:decide (0<=x5_1)=true:=decide_eq_true c5;clear c5;by_cases c6:x5_1<(l1.length:Int)
      ·rw[if_pos c6] at H;have c6b0:decide (x5_1<(l1.length:Int))=true:=decide_eq_true c6;clear c6;by_cases c7:(!(((rd_T39 l0 x5_1).f0)==((rd_T39 l1 x5_1).f0))||(!(((rd_T39 l0 x5_1).f1)==((rd_T39 l1 x5_1).f1))||(!(((rd_T39 l0 x5_1).f2)==((rd_T39 l1 x5_1).f2)))))=true
       ·rw[if_pos c7] at H;have c7b0:(!(((rd_T39 l0 x5_1).f0)==((rd_T39 l1 x5_1).f0))||(!(((rd_T39 l0 x5_1).f1)==((rd_T39 l1 x5_1).f1))||(!(((rd_T39 l0 x5_1).f2)==((rd_T39 l1 x5_1).f2)))))=true:=c7;clear c7;obtain rfl:=Option.some.inj H;have p120:0<=(x5_1:Int):=of_decide_eq_true (by first|(with_reducible assumption)|assumption);have q120:x5_1<(l0.length:Int):=of_decide_eq_true (by first|(with_reducible assumption)|assumption);obtain⟨ad120,e120,hx120_0,hx120_1,hx120_2⟩:=at_T39 HR0.out x5_1 p120 q120;cases e120;replace p120:=eq_true p120;replace q120:=eq_true q120;have p121:0<=(x5_1:Int):=of_decide_eq_true (by first|(with_reducible assumption)|assumption);have q121:x5_1<(l1.length:Int):=of_decide_eq_true (by first|(with_reducible assumption)|assumption);obtain⟨ad121,e121,hx121_0,hx121_1,hx121_2⟩:=at_T39 HR1.out x5_1 p121 q121;cases e121;replace p121:=eq_true p121;replace q121:=eq_true q121;go_wp2
        repeat (go_quiet (fail);try go_wp2)
        go_ret;exact⟨by first|rfl|(simp;done)|(simp[*];done),by repeat (first|exact Drawn0.refl _|apply Drawn0.step)⟩
       ·rw[if_neg c7] at H;have c7b0:(!(((rd_T39 l0 x5_1).f0)==((rd_T39 l1 x5_1).f0))||(!(((rd_T39 l0 x5_1).f1)==((rd_T39 l1 x5_1).f1))||(!(((rd_T39 l0 x5_1).f2)==((rd_T39 l1 x5_1).f2)))))=false:=by simpa using c7
        clear c7;have H' :=zd H;clear H;have p120:0<=(x5_1:Int):=of_decide_eq_true (by first|(with_reducible assumption)|assumption);have q120:x5_1<(l0.length:Int):=of_decide_eq_true (by first|(with_reducible assumption)|assumption);obtain⟨ad120,e120,hx120_0,hx120_1,hx120_2⟩:=at_T39 HR0.out x5_1 p120 q120;cases e120;replace p120:=eq_true p120;replace q120:=eq_true q120;have p121:0<=(x5_1:Int):=of_decide_eq_true (by first|(with_reducible assumption)|assumption);have q121:x5_1<(l1.length:Int):=of_decide_eq_true (by first|(with_reducible assumption)|assumption);obtain⟨ad121,e121,hx121_0,hx121_1,hx121_2⟩:=at_T39 HR1.out x5_1 p121 q121;cases e121;replace p121:=eq_true p121;replace q121:=eq_true q121;go_wp2
        repeat (go_quiet (fail);try go_wp2)
        go_roundg k1
        case measure=>have:=HK1.out;omega
        case rel=>exact⟨(wrap64 (x5_1+1)),(by first|rfl|(simp;done)|(simp[*];done)),H',⟨by have:=HK1.out;omega⟩,by repeat (first|exact Drawn0.refl _|apply Drawn0.step)⟩
      ·rw[if_neg c6] at H;exact absurd H (by simp)
     ·rw[if_neg c5] at H;exact absurd H (by simp)
    ·rw[if_neg c4] at H;have c4b0:decide (x5_1<(l0.length:Int))=false:=decide_eq_false c4;clear c4;obtain rfl:=Option.some.inj H;go_wp2
     repeat (go_quiet (fail);try go_wp2)
     go_ret;exact⟨by first|rfl|(simp;done)|(simp[*];done),by repeat (first|exact Drawn0.refl _|apply Drawn0.step)⟩
 ·rw[if_neg c3] at H;have c3b0:((l0.length:Int)==(l1.length:Int))=false:=beq_eq_false_iff_ne.mpr c3;have c3b1:((l0.length:Int) !=(l1.length:Int))=true:=bne_iff_ne.mpr c3;have c3b2:(l0.length==l1.length)=false:=by first|simpa using c3|(simp at c3 ⊢;omega)
  obtain rfl:=Option.some.inj H;go_enter Try.func18,Try.ntmps18;go_wp2
  repeat (go_quiet (fail);try go_wp2)
  go_ret;exact⟨by first|rfl|(simp;done)|(simp[*];done),by repeat (first|exact Drawn0.refl _|apply Drawn0.step)⟩
end Go.Proofs.Ytjegeghigfmkoaa.X
namespace Go.Proofs.Ytjegeghigfmkoaa.X
open Go.RowKit Go.Proofs.YtjegeghigfmkoaaW.PrintWords Go.Proofs.YtjegeghigfmkoaaW.PrintLast Go.Proofs.YtjegeghigfmkoaaW.PrintMore
attribute [local go_sem] max2_int min2_int max_two min_two max_three min_three max_four min_four   -- for this text's walks alone
set_option linter.unusedVariables false
set_option linter.unusedSimpArgs false
theorem eqA23 (d:Nat) (w:World) (x0 y0:Int) (x1 y1:Int) (x2 y2:Int):
  (Op.equalIn (d+2) 23 (.agg #[.int .i64 x0,.int .i64 x1,.int .i64 x2]) (.agg #[.int .i64 y0,.int .i64 y1,.int .i64 y2])).run Try.prog w= .ok (x0==y0 && (x1==y1 && (x2==y2))) w:=by
 refine eqA_of Try.underlying23 (by kernel_rfl) ?_;refine eqf_cons (by rfl) (by go_simp;rfl) (by go_simp;rfl) (by go_simp) ?_;refine eqf_cons (by rfl) (by go_simp;rfl) (by go_simp;rfl) (by go_simp) ?_;exact eqf_last (by rfl) (by go_simp;rfl) (by go_simp;rfl) (by go_simp)
end Go.Proofs.Ytjegeghigfmkoaa.X
namespace Go.Proofs.Ytjegeghigfmkoaa.X
open Go.RowKit Go.Proofs.YtjegeghigfmkoaaW.PrintWords Go.Proofs.YtjegeghigfmkoaaW.PrintLast Go.Proofs.YtjegeghigfmkoaaW.PrintMore
attribute [local go_sem] max2_int min2_int max_two min_two max_three min_three max_four min_four   -- for this text's walks alone
set_option linter.unusedVariables false
set_option linter.unusedSimpArgs false
attribute [local go_sem high] eqA23
mutual
def leatlaw12_fit.j0:Nat ->Bool ->Int ->Int ->Int ->Option (Bool)
 |0,_,_,_,_=>none
 |k+1,x10,x156000,x156001,x156002=>if x10=true then(some false) else(if (x156000==0 && (x156001==0 && (x156002==0)))=true then(some true) else(if x156000<1 then(leatlaw12_fit.j1 k true x156000 x156001 x156002) else(if x156000>3 then(leatlaw12_fit.j1 k true x156000 x156001 x156002) else(if x156001<1 then(leatlaw12_fit.j1 k true x156000 x156001 x156002) else(leatlaw12_fit.j1 k (decide (x156001>68719476736)) x156000 x156001 x156002)))))
def leatlaw12_fit.j1:Nat ->Bool ->Int ->Int ->Int ->Option (Bool)
 |0,_,_,_,_=>none
 |k+1,x31,x156000,x156001,x156002=>if x31=true then(some false) else(if x156000=2 then(if x156002≥1 then(if x156002<=68719476736 then(if x156002=0 then(none) else(some (decide ((wrap64 (Int.tdiv (wrap64 (x156001-1)) x156002))<64)))) else(some false)) else(some false)) else(some (x156002==0)))
end
def leatlaw12_fit.f (k:Nat) (a0_0:Int) (a0_1:Int) (a0_2:Int) (a1:Int):Option (Bool):=if a1<1 then(leatlaw12_fit.j0 k true a0_0 a0_1 a0_2) else(leatlaw12_fit.j0 k (decide (a1>5)) a0_0 a0_1 a0_2)
set_option maxHeartbeats 8000000 in
set_option maxRecDepth 100000 in
theorem leatlaw12_fit.calls (k:Nat) (a0_0:Int) (a0_1:Int) (a0_2:Int) (a1:Int) (r:Bool) (w:World) (h:leatlaw12_fit.f k a0_0 a0_1 a0_2 a1=some r):
  Calls Try.prog 10 #[.agg #[.int .i64 a0_0,.int .i64 a0_1,.int .i64 a0_2],.int .i64 a1] w fun e w'=>e= .returned (.bool r)/\Below w.heap.size w w' :=by
 have hu23:=Try.underlying23;have HB:=zd (Below.refl w.heap.size w);have H:(if a1<1 then(leatlaw12_fit.j0 k true a0_0 a0_1 a0_2) else(leatlaw12_fit.j0 k (decide (a1>5)) a0_0 a0_1 a0_2))=some r:=h;clear h;have HC3:=zd H;clear H;go_enter Try.func10,Try.ntmps10;go_upto_region 1 with (first|((with_reducible refine gate_dst (N:=2) rfl ?_);refine box_event ?hg (N:=2) ?hd (cs:= #[.int .i64 a0_0,.int .i64 a0_1,.int .i64 a0_2]) (t:=23) ?hr ?_;(case hd=>rfl);(case hg=>rfl);(case hr=>first|(go_simp;done)|(go_simp;rfl));intro gb155 hg w4 hbox hb;have n0_:=zd (zs (by repeat (first|(with_reducible first|exact HB.out|apply zh|apply zi|apply zj)|exact HB.out)) hb);have n1_:=zd (hbox);have n2_:=zd ((by rw[hg];exact(below_size (by repeat (first|(with_reducible first|exact HB.out|apply zh|apply zi|apply zj)|exact HB.out))):w.heap.size<=gb155));have n3_:=zd ((by rw[hg];exact(below_size (by repeat (first|(with_reducible first|exact HB.out|apply zh|apply zi|apply zj)|exact HB.out))):w.heap.size<=gb155));clear HB;have HB:=n0_;have BK155:=n1_;have GW155:=n2_;have GE155:=n3_;clear n0_ n1_ n2_ n3_;clear hb hbox hg))
 (try simp only[Act.put,za,zb,zc])
 go_cut [10] (fun v10 wc=> ∃(kq:Nat) (x10_2:Bool),v10= .bool x10_2/\Aside0 (leatlaw12_fit.j0 kq x10_2 a0_0 a0_1 a0_2=some r)/\Aside0 (kq<=k)/\Aside0 (wc.heap[gb155]? =some (.cells #[.int .i64 a0_0,.int .i64 a0_1,.int .i64 a0_2] 23 (0,0)))/\Aside0 (Below w.heap.size w wc))
 case first=>
  have H:=HC3.out;clear HC3;by_cases c5:a1<1
  ·rw[if_pos c5] at H;have c5b0:decide (a1<1)=true:=decide_eq_true c5;clear c5
   (first|rw[c5b0]|(simp only[i64_w,i32_w];rw[c5b0])|skip)
   have H' :=zd H;clear H;go_wp2;go_meet
   case rel=>exact⟨_,(true),(by first|rfl|(simp;done)|(simp[*];done)),H',⟨by first|omega|exact Nat.le_refl _⟩,⟨by(with_reducible repeat (first|refine zk ?_ _|refine zl ?_|refine zm ?_ _));exact BK155.out⟩,⟨by repeat (first|(with_reducible first|exact HB.out|apply zh|apply zi|apply zj|refine zn ?_ GE155.out)|exact HB.out)⟩⟩
  ·rw[if_neg c5] at H;have c5b0:decide (a1<1)=false:=decide_eq_false c5;clear c5
   (first|rw[c5b0]|(simp only[i64_w,i32_w];rw[c5b0])|skip)
   have H' :=zd H;clear H;go_wp2;go_meet
   case rel=>exact⟨_,(decide (a1>5)),(by first|rfl|(simp;done)|(simp[*];done)),H',⟨by first|omega|exact Nat.le_refl _⟩,⟨by(with_reducible repeat (first|refine zk ?_ _|refine zl ?_|refine zm ?_ _));exact BK155.out⟩,⟨by repeat (first|(with_reducible first|exact HB.out|apply zh|apply zi|apply zj|refine zn ?_ GE155.out)|exact HB.out)⟩⟩
 case rest =>
  clear HC3
  try clear c1;try clear p2;try clear c5;try clear c5b0
  obtain⟨kq,x10_2,rfl,HA,HJ2,BK155,HB⟩:=hcut;cases kq with
  |zero=>exact absurd HA.out (by simp[leatlaw12_fit.j0])
  | succ kj2=>
   have H:=HA.out;clear HA;simp only[leatlaw12_fit.j0] at H;by_cases c6:x10_2=true
   ·subst c6;have H1:(some false)=some r:=by rw[if_pos rfl] at H;exact H
    clear H;have H:=H1;clear H1;obtain rfl:=Option.some.inj H;go_wp2;go_ret;exact⟨by first|rfl|(simp[errW_none,errW_some]<;>rfl)|(simp[*,errW_none,errW_some]<;>rfl),by repeat (first|(with_reducible first|exact HB.out|apply zh|apply zi|apply zj|refine zn ?_ GE155.out)|exact HB.out)⟩
   ·replace c6:=Bool.eq_false_iff.mpr c6;subst c6;have H1:(if (a0_0==0 && (a0_1==0 && (a0_2==0)))=true then(some true) else(if a0_0<1 then(leatlaw12_fit.j1 kj2 true a0_0 a0_1 a0_2) else(if a0_0>3 then(leatlaw12_fit.j1 kj2 true a0_0 a0_1 a0_2) else(if a0_1<1 then(leatlaw12_fit.j1 kj2 true a0_0 a0_1 a0_2) else(leatlaw12_fit.j1 kj2 (decide (a0_1>68719476736)) a0_0 a0_1 a0_2)))))=some r:=by rw[if_neg (show ¬(false=true) by decide)] at H;exact H
    clear H;have H:=H1;clear H1;by_cases c7:(a0_0==0 && (a0_1==0 && (a0_2==0)))=true
    ·rw[if_pos c7] at H;have c7b0:(a0_0==0 && (a0_1==0 && (a0_2==0)))=true:=c7
     (try(have c7b1:decide (a0_0=0 && (a0_1==0 && (a0_2==0)))=true:=by simpa using c7))
     (try(have c7b2:(a0_0==0 && (a0_1==0 && (a0_2==0)))=true:=by simpa using c7))
     clear c7;obtain rfl:=Option.some.inj H;have hcz8_0:wc.cell? ⟨gb155,0,none⟩=some (.int .i64 a0_0):=(zo BK155.out 0).trans rfl;have hcz8_1:wc.cell? ⟨gb155,1,none⟩=some (.int .i64 a0_1):=(zo BK155.out 1).trans rfl;have hcz8_2:wc.cell? ⟨gb155,2,none⟩=some (.int .i64 a0_2):=(zo BK155.out 2).trans rfl;have hfz8_0:=blk_frozen BK155.out 0;have hfz8_1:=blk_frozen BK155.out 1;have hfz8_2:=blk_frozen BK155.out 2;go_wp2;go_ret;exact⟨by first|rfl|(simp[errW_none,errW_some]<;>rfl)|(simp[*,errW_none,errW_some]<;>rfl),by repeat (first|(with_reducible first|exact HB.out|apply zh|apply zi|apply zj|refine zn ?_ GE155.out)|exact HB.out)⟩
    ·rw [if_neg c7] at H;have c7b0:(a0_0==0 && (a0_1==0 && (a0_2==0)))=false:=by simpa using c7
     (try(have c7b1:decide (a0_0=0 && (a0_1==0 && (a0_2==0)))=false:=by simpa using c7))
     (try(have c7b2:(a0_0==0 && (a0_1==0 && (a0_2==0)))=false:=by simpa using c7))
     (try(have c7b3: ¬(a0_0=0 && (a0_1==0 && (a0_2==0))):=by simpa using c7))
     clear c7;have HC9:=zd H;clear H;have hcz10_0:wc.cell? ⟨gb155,0,none⟩=some (.int .i64 a0_0):=(zo BK155.out 0).trans rfl;have hcz10_1:wc.cell? ⟨gb155,1,none⟩=some (.int .i64 a0_1):=(zo BK155.out 1).trans rfl;have hcz10_2:wc.cell? ⟨gb155,2,none⟩=some (.int .i64 a0_2):=(zo BK155.out 2).trans rfl;have hfz10_0:=blk_frozen BK155.out 0;have hfz10_1:=blk_frozen BK155.out 1;have hfz10_2:=blk_frozen BK155.out 2;go_upto_region 5 with (fail)
     go_cut [31] (fun v31 wc=> ∃(kq:Nat) (x31_8:Bool),v31= .bool x31_8/\Aside0 (leatlaw12_fit.j1 kq x31_8 a0_0 a0_1 a0_2=some r)/\Aside0 (kq<=kj2)/\Aside0 (wc.heap[gb155]? =some (.cells #[.int .i64 a0_0,.int .i64 a0_1,.int .i64 a0_2] 23 (0,0)))/\Aside0 (Below w.heap.size w wc))
     case first=>
      have H:=HC9.out;clear HC9;by_cases c11:a0_0<1
      ·rw[if_pos c11] at H;have c11b0:decide (a0_0<1)=true:=decide_eq_true c11;clear c11
       (first|rw[c11b0]|(simp only[i64_w,i32_w];rw[c11b0])|skip)
       have H' :=zd H;clear H;have hcz12_0:wc.cell? ⟨gb155,0,none⟩=some (.int .i64 a0_0):=(zo BK155.out 0).trans rfl;have hcz12_1:wc.cell? ⟨gb155,1,none⟩=some (.int .i64 a0_1):=(zo BK155.out 1).trans rfl;have hcz12_2:wc.cell? ⟨gb155,2,none⟩=some (.int .i64 a0_2):=(zo BK155.out 2).trans rfl;have hfz12_0:=blk_frozen BK155.out 0;have hfz12_1:=blk_frozen BK155.out 1;have hfz12_2:=blk_frozen BK155.out 2;go_wp2;go_meet
       case rel=>exact⟨_,(true),(by first|rfl|(simp;done)|(simp[*];done)),H',⟨by have:=HJ2.out;first|omega|exact Nat.le_refl _⟩,⟨by(with_reducible repeat (first|refine zk ?_ _|refine zl ?_|refine zm ?_ _));exact BK155.out⟩,⟨by repeat (first|(with_reducible first|exact HB.out|apply zh|apply zi|apply zj|refine zn ?_ GE155.out)|exact HB.out)⟩⟩
      ·rw[if_neg c11] at H;have c11b0:decide (a0_0<1)=false:=decide_eq_false c11;clear c11
       (first|rw[c11b0]|(simp only[i64_w,i32_w];rw[c11b0])|skip)
       by_cases c13:a0_0>3
       ·rw[if_pos c13] at H;have c13b0:decide (3<a0_0)=true:=decide_eq_true c13;clear c13;have H' :=zd H;clear H;have hcz14_0:wc.cell? ⟨gb155,0,none⟩=some (.int .i64 a0_0):=(zo BK155.out 0).trans rfl;have hcz14_1:wc.cell? ⟨gb155,1,none⟩=some (.int .i64 a0_1):=(zo BK155.out 1).trans rfl;have hcz14_2:wc.cell? ⟨gb155,2,none⟩=some (.int .i64 a0_2):=(zo BK155.out 2).trans rfl;have hfz14_0:=blk_frozen BK155.out 0;have hfz14_1:=blk_frozen BK155.out 1;have hfz14_2:=blk_frozen BK155.out 2;go_wp2;go_meet
        case rel=>exact⟨_,(true),(by first|rfl|(simp;done)|(simp[*];done)),H',⟨by have:=HJ2.out;first|omega|exact Nat.le_refl _⟩,⟨by(with_reducible repeat (first|refine zk ?_ _|refine zl ?_|refine zm ?_ _));exact BK155.out⟩,⟨by repeat (first|(with_reducible first|exact HB.out|apply zh|apply zi|apply zj|refine zn ?_ GE155.out)|exact HB.out)⟩⟩
       ·rw[if_neg c13] at H;have c13b0:decide (3<a0_0)=false:=decide_eq_false c13;clear c13;by_cases c15:a0_1<1
        ·rw[if_pos c15] at H;have c15b0:decide (a0_1<1)=true:=decide_eq_true c15;clear c15;have H' :=zd H;clear H;have hcz16_0:wc.cell? ⟨gb155,0,none⟩=some (.int .i64 a0_0):=(zo BK155.out 0).trans rfl;have hcz16_1:wc.cell? ⟨gb155,1,none⟩=some (.int .i64 a0_1):=(zo BK155.out 1).trans rfl;have hcz16_2:wc.cell? ⟨gb155,2,none⟩=some (.int .i64 a0_2):=(zo BK155.out 2).trans rfl;have hfz16_0:=blk_frozen BK155.out 0;have hfz16_1:=blk_frozen BK155.out 1;have hfz16_2:=blk_frozen BK155.out 2;go_wp2;go_meet
         case rel=>exact⟨_,(true),(by first|rfl|(simp;done)|(simp[*];done)),H',⟨by have:=HJ2.out;first|omega|exact Nat.le_refl _⟩,⟨by(with_reducible repeat (first|refine zk ?_ _|refine zl ?_|refine zm ?_ _));exact BK155.out⟩,⟨by repeat (first|(with_reducible first|exact HB.out|apply zh|apply zi|apply zj|refine zn ?_ GE155.out)|exact HB.out)⟩⟩
        ·rw[if_neg c15] at H;have c15b0:decide (a0_1<1)=false:=decide_eq_false c15;clear c15;have H' :=zd H;clear H;have hcz17_0:wc.cell? ⟨gb155,0,none⟩=some (.int .i64 a0_0):=(zo BK155.out 0).trans rfl;have hcz17_1:wc.cell? ⟨gb155,1,none⟩=some (.int .i64 a0_1):=(zo BK155.out 1).trans rfl;have hcz17_2:wc.cell? ⟨gb155,2,none⟩=some (.int .i64 a0_2):=(zo BK155.out 2).trans rfl;have hfz17_0:=blk_frozen BK155.out 0;have hfz17_1:=blk_frozen BK155.out 1;have hfz17_2:=blk_frozen BK155.out 2;go_wp2;go_meet
         case rel=>exact⟨_,(decide (a0_1>68719476736)),(by first|rfl|(simp;done)|(simp[*];done)),H',⟨by have:=HJ2.out;first|omega|exact Nat.le_refl _⟩,⟨by(with_reducible repeat (first|refine zk ?_ _|refine zl ?_|refine zm ?_ _));exact BK155.out⟩,⟨by repeat (first|(with_reducible first|exact HB.out|apply zh|apply zi|apply zj|refine zn ?_ GE155.out)|exact HB.out)⟩⟩
     case rest=>
      clear HC9
      try clear c1;try clear p2;try clear c5;try clear c5b0;try clear c6;try clear c7;try clear c7b0;try clear c7b1;try clear c7b2;try clear c10;try clear c11;try clear c11b0;try clear c13;try clear c13b0;try clear c15;try clear c15b0;try clear hcz10_0;try clear hcz10_1;try clear hcz10_2;try clear hcz12_0;try clear hcz12_1;try clear hcz12_2;try clear hcz14_0;try clear hcz14_1;try clear hcz14_2;try clear hcz16_0;try clear hcz16_1;try clear hcz16_2;try clear hcz17_0;try clear hcz17_1;try clear hcz17_2;try clear hcz8_0;try clear hcz8_1;try clear hcz8_2;try clear hfz10_0;try clear hfz10_1;try clear hfz10_2;try clear hfz12_0;try clear hfz12_1;try clear hfz12_2;try clear hfz14_0;try clear hfz14_1;try clear hfz14_2;try clear hfz16_0;try clear hfz16_1;try clear hfz16_2;try clear hfz17_0;try clear hfz17_1;try clear hfz17_2;try clear hfz8_0;try clear hfz8_1;try clear hfz8_2;try clear p2
      obtain⟨kq,x31_8,rfl,HA,HJ8,BK155,HB⟩:=hcut;cases kq with
      |zero=>exact absurd HA.out (by simp[leatlaw12_fit.j1])
      | succ kj8=>
       have H:=HA.out;clear HA;simp only[leatlaw12_fit.j1] at H;by_cases c18:x31_8=true
       ·subst c18;have H1:(some false)=some r:=by rw[if_pos rfl] at H;exact H
        clear H;have H:=H1;clear H1;obtain rfl:=Option.some.inj H;go_wp2;go_ret;exact⟨by first|rfl|(simp[errW_none,errW_some]<;>rfl)|(simp[*,errW_none,errW_some]<;>rfl),by repeat (first|(with_reducible first|exact HB.out|apply zh|apply zi|apply zj|refine zn ?_ GE155.out)|exact HB.out)⟩
       ·replace c18:=Bool.eq_false_iff.mpr c18;subst c18;have H1:(if a0_0=2 then(if a0_2≥1 then(if a0_2<=68719476736 then(if a0_2=0 then(none) else(some (decide ((wrap64 (Int.tdiv (wrap64 (a0_1-1)) a0_2))<64)))) else(some false)) else(some false)) else(some (a0_2==0)))=some r:=by rw[if_neg (show ¬(false=true) by decide)] at H;exact H
        clear H;have H:=H1;clear H1;by_cases c19:a0_0=2
        ·rw [if_pos c19] at H;have c19b0:(a0_0==2)=true:=beq_iff_eq.mpr c19;have c19b1:(a0_0 !=2)=false:=bne_eq_false_iff_eq.mpr c19;clear c19;by_cases c20:a0_2≥1
         ·rw[if_pos c20] at H;have c20b0:decide (1<=a0_2)=true:=decide_eq_true c20;clear c20;by_cases c21:a0_2<=68719476736
          ·rw[if_pos c21] at H;have c21b0:decide (a0_2<=68719476736)=true:=decide_eq_true c21;clear c21;by_cases c22:a0_2=0
           ·rw[if_pos c22] at H;exact absurd H (by simp)
           ·rw[if_neg c22] at H;have c22b0:(a0_2==0)=false:=beq_eq_false_iff_ne.mpr c22;have c22b1:(a0_2 !=0)=true:=bne_iff_ne.mpr c22;obtain rfl:=Option.some.inj H;have hcz23_0:wc.cell? ⟨gb155,0,none⟩=some (.int .i64 a0_0):=(zo BK155.out 0).trans rfl;have hcz23_1:wc.cell? ⟨gb155,1,none⟩=some (.int .i64 a0_1):=(zo BK155.out 1).trans rfl;have hcz23_2:wc.cell? ⟨gb155,2,none⟩=some (.int .i64 a0_2):=(zo BK155.out 2).trans rfl;have hfz23_0:=blk_frozen BK155.out 0;have hfz23_1:=blk_frozen BK155.out 1;have hfz23_2:=blk_frozen BK155.out 2;go_wp2;go_ret;exact⟨by first|rfl|(simp[errW_none,errW_some]<;>rfl)|(simp[*,errW_none,errW_some]<;>rfl),by repeat (first|(with_reducible first|exact HB.out|apply zh|apply zi|apply zj|refine zn ?_ GE155.out)|exact HB.out)⟩
          ·rw[if_neg c21] at H;have c21b0:decide (a0_2<=68719476736)=false:=decide_eq_false c21;clear c21;obtain rfl:=Option.some.inj H;have hcz24_0:wc.cell? ⟨gb155,0,none⟩=some (.int .i64 a0_0):=(zo BK155.out 0).trans rfl;have hcz24_1:wc.cell? ⟨gb155,1,none⟩=some (.int .i64 a0_1):=(zo BK155.out 1).trans rfl;have hcz24_2:wc.cell? ⟨gb155,2,none⟩=some (.int .i64 a0_2):=(zo BK155.out 2).trans rfl;have hfz24_0:=blk_frozen BK155.out 0;have hfz24_1:=blk_frozen BK155.out 1;have hfz24_2:=blk_frozen BK155.out 2;go_wp2;go_ret;exact⟨by first|rfl|(simp[errW_none,errW_some]<;>rfl)|(simp[*,errW_none,errW_some]<;>rfl),by repeat (first|(with_reducible first|exact HB.out|apply zh|apply zi|apply zj|refine zn ?_ GE155.out)|exact HB.out)⟩
         ·rw[if_neg c20] at H;have c20b0:decide (1<=a0_2)=false:=decide_eq_false c20;clear c20;obtain rfl:=Option.some.inj H;have hcz25_0:wc.cell? ⟨gb155,0,none⟩=some (.int .i64 a0_0):=(zo BK155.out 0).trans rfl;have hcz25_1:wc.cell? ⟨gb155,1,none⟩=some (.int .i64 a0_1):=(zo BK155.out 1).trans rfl;have hcz25_2:wc.cell? ⟨gb155,2,none⟩=some (.int .i64 a0_2):=(zo BK155.out 2).trans rfl;have hfz25_0:=blk_frozen BK155.out 0;have hfz25_1:=blk_frozen BK155.out 1;have hfz25_2:=blk_frozen BK155.out 2;go_wp2;go_ret;exact⟨by first|rfl|(simp[errW_none,errW_some]<;>rfl)|(simp[*,errW_none,errW_some]<;>rfl),by repeat (first|(with_reducible first|exact HB.out|apply zh|apply zi|apply zj|refine zn ?_ GE155.out)|exact HB.out)⟩
        ·rw[if_neg c19] at H;have c19b0:(a0_0==2)=false:=beq_eq_false_iff_ne.mpr c19;have c19b1:(a0_0 !=2)=true:=bne_iff_ne.mpr c19;obtain rfl:=Option.some.inj H;have hcz26_0:wc.cell? ⟨gb155,0,none⟩=some (.int .i64 a0_0):=(zo BK155.out 0).trans rfl;have hcz26_1:wc.cell? ⟨gb155,1,none⟩=some (.int .i64 a0_1):=(zo BK155.out 1).trans rfl;have hcz26_2:wc.cell? ⟨gb155,2,none⟩=some (.int .i64 a0_2):=(zo BK155.out 2).trans rfl;have hfz26_0:=blk_frozen BK155.out 0;have hfz26_1:=blk_frozen BK155.out 1;have hfz26_2:=blk_frozen BK155.out 2;go_wp2;go_ret;exact⟨by first|rfl|(simp[errW_none,errW_some]<;>rfl)|(simp[*,errW_none,errW_some]<;>rfl),by repeat (first|(with_reducible first|exact HB.out|apply zh|apply zi|apply zj|refine zn ?_ GE155.out)|exact HB.out)⟩
end Go.Proofs.Ytjegeghigfmkoaa.X
namespace Go.Proofs.Ytjegeghigfmkoaa.X
open Go.RowKit Go.Proofs.YtjegeghigfmkoaaW.PrintWords Go.Proofs.YtjegeghigfmkoaaW.PrintLast Go.Proofs.YtjegeghigfmkoaaW.PrintMore
attribute [local go_sem] max2_int min2_int max_two min_two max_three min_three max_four min_four   -- for this text's walks alone
set_option linter.unusedVariables false
set_option linter.unusedSimpArgs false
def leatlaw12_time.f (a0:Int):Option (Bool):=if a0≥(-1125899906842624) then(some (decide (a0<=1125899906842624))) else(some false)
set_option maxHeartbeats 8000000 in
set_option maxRecDepth 100000 in
theorem leatlaw12_time.calls (a0:Int) (r:Bool) (w:World) (h:leatlaw12_time.f a0=some r):
  Calls Try.prog 14 #[.int .i64 a0] w fun e w'=>e= .returned (.bool r)/\Drawn0 w w' :=by
 have H:(if a0≥(-1125899906842624) then(some (decide (a0<=1125899906842624))) else(some false))=some r:=h;clear h;by_cases c2:a0≥(-1125899906842624)
 ·rw[if_pos c2] at H;have c2b0:decide ((-1125899906842624)<=a0)=true:=decide_eq_true c2;clear c2;obtain rfl:=Option.some.inj H;go_enter Try.func14,Try.ntmps14;go_wp2;go_ret;exact⟨by first|rfl|(simp;done)|(simp[*];done),by repeat (first|exact Drawn0.refl _|apply Drawn0.step)⟩
 ·rw[if_neg c2] at H;have c2b0:decide ((-1125899906842624)<=a0)=false:=decide_eq_false c2;clear c2;obtain rfl:=Option.some.inj H;go_enter Try.func14,Try.ntmps14;go_wp2;go_ret;exact⟨by first|rfl|(simp;done)|(simp[*];done),by repeat (first|exact Drawn0.refl _|apply Drawn0.step)⟩
end Go.Proofs.Ytjegeghigfmkoaa.X
namespace Go.Proofs.Ytjegeghigfmkoaa.X
open Go.RowKit Go.Proofs.YtjegeghigfmkoaaW.PrintWords Go.Proofs.YtjegeghigfmkoaaW.PrintLast Go.Proofs.YtjegeghigfmkoaaW.PrintMore
attribute [local go_sem] max2_int min2_int max_two min_two max_three min_three max_four min_four   -- for this text's walks alone
set_option linter.unusedVariables false
set_option linter.unusedSimpArgs false
def leatref11_floor.f (a0:Int) (a1:Int):Option (Int):=if a1=0 then(none) else(if (Int.tmod a0 a1)<0 then(some (wrap64 (a0- (wrap64 ((Int.tmod a0 a1)+a1))))) else(some (wrap64 (a0- (Int.tmod a0 a1)))))
set_option maxHeartbeats 8000000 in
set_option maxRecDepth 100000 in
theorem leatref11_floor.calls (a0:Int) (a1:Int) (r:Int) (w:World) (h:leatref11_floor.f a0 a1=some r):
  Calls Try.prog 68 #[.int .i64 a0,.int .i64 a1] w fun e w'=>e= .returned (.int .i64 r)/\Drawn0 w w' :=by
 have H:(if a1=0 then(none) else(if (Int.tmod a0 a1)<0 then(some (wrap64 (a0- (wrap64 ((Int.tmod a0 a1)+a1))))) else(some (wrap64 (a0- (Int.tmod a0 a1))))))=some r:=h;clear h;by_cases c3:a1=0
 ·rw[if_pos c3] at H;exact absurd H (by simp)
 ·rw[if_neg c3] at H;have c3b0:(a1==0)=false:=beq_eq_false_iff_ne.mpr c3;have c3b1:(a1 !=0)=true:=bne_iff_ne.mpr c3;by_cases c4:(Int.tmod a0 a1)<0
  ·rw[if_pos c4] at H;have c4b0:decide ((Int.tmod a0 a1)<0)=true:=decide_eq_true c4;clear c4;obtain rfl:=Option.some.inj H;go_enter Try.func68,Try.ntmps68;go_wp2;go_ret;exact⟨by first|rfl|(simp;done)|(simp[*];done),by repeat (first|exact Drawn0.refl _|apply Drawn0.step)⟩
  ·rw[if_neg c4] at H;have c4b0:decide ((Int.tmod a0 a1)<0)=false:=decide_eq_false c4;clear c4;obtain rfl:=Option.some.inj H;go_enter Try.func68,Try.ntmps68;go_wp2;go_ret;exact⟨by first|rfl|(simp;done)|(simp[*];done),by repeat (first|exact Drawn0.refl _|apply Drawn0.step)⟩
end Go.Proofs.Ytjegeghigfmkoaa.X
namespace Go.Proofs.Ytjegeghigfmkoaa.X
open Go.RowKit Go.Proofs.YtjegeghigfmkoaaW.PrintWords Go.Proofs.YtjegeghigfmkoaaW.PrintLast Go.Proofs.YtjegeghigfmkoaaW.PrintMore
attribute [local go_sem] max2_int min2_int max_two min_two max_three min_three max_four min_four   -- for this text's walks alone
set_option linter.unusedVariables false
set_option linter.unusedSimpArgs false
def state_number.l0:Nat ->List Int ->Int ->Int ->Option (List Int)
 |0,_,_,_=>none
 |k+1,x0,x1,x7=>if x7≥0 then(if 0<=(IntKind.u64.wrap (wrap64 (8*x7))) then(if x0.length<140737488355328 then(state_number.l0 k (x0++[(shr .u64 x1 (IntKind.u64.wrap (wrap64 (8*x7)))) % 256]) x1 (wrap64 (x7-1))) else(none)) else(none)) else(some x0)
def state_number.f (k:Nat) (l0:List Int) (a1:Int) (a2:Int):Option (List Int):=state_number.l0 k l0 a1 (wrap64 (a2-1))
set_option maxHeartbeats 8000000 in
set_option maxRecDepth 100000 in
theorem state_number.calls (k:Nat) (P0_:Nat ->Prop) (u9000_:Value) (l0:List Int) (a1:Int) (a2:Int) (r:List Int) (w0 w:World) (hB:Below w0.heap.size w0 w) (ho0:Kd.R (Kd.int .u8) 5 w w0.heap.size P0_ u9000_ l0) (h:state_number.f k l0 a1 a2=some r):
  Calls Try.prog 50 #[u9000_,.int .u64 a1,.int .i64 a2] w fun e w'=> ∃v0_:Value,e= .returned (v0_)/\Kd.R (Kd.int .u8) 5 w' w0.heap.size (fun k_=>(P0_ k_∨w.heap.size<=k_)) v0_ r/\Below w0.heap.size w0 w'/\Kept w w' (fun k_=>P0_ k_):=by
 have HO0:=zd (show Kd.R (Kd.int .u8) 5 w w0.heap.size (fun k_=>(P0_ k_∨w.heap.size<=k_)) u9000_ l0 from zq ho0 (fun k_ hk=>(.inl hk)));have HK:=zd (Kept.refl w (fun k_=>P0_ k_));have HW0:=zd hB.size;have HB:=zd hB;clear hB;have H:(state_number.l0 k l0 a1 (wrap64 (a2-1)))=some r:=h;clear h;have H' :=zd H;clear H;go_enter Try.func50,Try.ntmps50;go_wp2;go_loopg [0,7] k (fun kq v0 v7 w'=> ∃(x0_1:List Int) (x7_1:Int),v7= .int .i64 x7_1/\Aside0 (state_number.l0 kq x0_1 a1 x7_1=some r)/\Aside0 (kq<=k)/\Aside0 (Kd.R (Kd.int .u8) 5 w' w0.heap.size (fun k_=>(P0_ k_∨w.heap.size<=k_)) v0 x0_1)/\Aside0 (Kept w w' (fun k_=>P0_ k_))/\Aside0 (Below w0.heap.size w0 w'))
 case atStart=>exact⟨(l0),(wrap64 (a2-1)),(by first|rfl|(simp;done)|(simp[*];done)),H',⟨Nat.le_refl _⟩,⟨by(with_reducible repeat (first|apply ze|apply zf|apply zg));exact HO0.out⟩,⟨by repeat (first|(with_reducible first|exact HK.out|apply Kept.alloc|apply Kept.drewN|apply Kept.drew)|exact HK.out)⟩,⟨by repeat (first|(with_reducible first|exact HB.out|apply zh|apply zi|apply zj)|exact HB.out)⟩⟩
 case round=>
  clear H'
  try clear p2
  obtain⟨x0_1,x7_1,rfl,HA,HK1,HO_0,HK,HB⟩:=hrel;cases gk with
  |zero=>exact absurd HA.out (by simp[state_number.l0])
  | succ k1=>
   have H:=HA.out;clear HA;simp only[state_number.l0] at H;by_cases c4:x7_1≥0
   ·rw[if_pos c4] at H;have c4b0:decide (0<=x7_1)=true:=decide_eq_true c4;clear c4;obtain⟨ji5,hji5⟩: ∃j_:Int,(IntKind.u64.wrap (wrap64 (8*x7_1)))=j_:=⟨_,rfl⟩
    replace H:(if 0<=(ji5) then(if x0_1.length<140737488355328 then(state_number.l0 k1 (x0_1++[(shr .u64 a1 (ji5)) % 256]) a1 (wrap64 (x7_1-1))) else(none)) else(none))=some r:=by first|(rw[hji5] at H;exact H)|(simp only[hji5] at H ⊢;exact H)
    by_cases c6:0<=(ji5)
    ·rw[if_pos c6] at H;have c6b0:=eq_true c6;have c6b1:decide (0<=(ji5))=true:=decide_eq_true c6;clear c6;obtain⟨ji7,hji7⟩: ∃j_:Int,(shr .u64 a1 (ji5))=j_:=⟨_,rfl⟩
     replace H:(if x0_1.length<140737488355328 then(state_number.l0 k1 (x0_1++[(ji7) % 256]) a1 (wrap64 (x7_1-1))) else(none))=some r:=by first|(rw[hji7] at H;exact H)|(simp only[hji7] at H ⊢;exact H)
     have hji7_:(a1 / 2 ^ min (ji5).toNat 64)=ji7:=hji7;have hji7z:(ji5)<=64 ->(a1 / 2 ^ (ji5).toNat)=ji7:=shr_small hji7;by_cases c8:x0_1.length<140737488355328
     ·rw[if_pos c8] at H;have LMc8:=zd c8;clear c8;obtain⟨y150,hy150⟩: ∃y_:List Int,y_=(x0_1++[(ji7) % 256]):=⟨_,rfl⟩
      replace H:(state_number.l0 k1 y150 a1 (wrap64 (x7_1-1)))=some r:=by first|(rw[hy150];with_reducible exact H)|(have H2_:=(Option.bind_some _ _).symm.trans H;rw[hy150];with_reducible exact H2_)|(have H2_:=(Option.bind_some _ _).symm.trans H;with_reducible exact H2_)|with_reducible exact H|(rw[hy150];exact H)|exact H
      have Ny150:=zd hy150;clear hy150;have H' :=zd H;clear H;go_wp2_with (first|((with_reducible refine gate_builtin (b:= .append) (xs:= #[.tmp 14,.tmp 21]) rfl ?_);at_builtin;refine Kd.R_append (Kd.int .u8) (w0:=w0) w0.heap.size rfl (.tmp 14) (.tmp 21) 58 5 (.int .u8 0) 1 rfl Try.underlying58 info5 rfl (by decide) (by omega) u0 x0_1 ((ji7) % 256) [.int .u8 ((ji7) % 256)] (fun k_=>(P0_ k_∨w.heap.size<=k_)) (fun _=>False) rfl rfl ?aP (fun _ hk=>hk.elim) ?aF ?aO ?aB ?aS ?aL ?_;(case aP=>exact rfl);(case aB=>exact(by repeat (first|(with_reducible first|exact HB.out|apply zh|apply zi|apply zj)|exact HB.out)));(case aF=>exact(fun k_ hk=>(.inr (Nat.le_trans (by first|exact HK.out.1|exact(show Kept w _ (fun k_=>P0_ k_) from by repeat (first|(with_reducible first|exact HK.out|apply Kept.alloc|apply Kept.drewN|apply Kept.drew)|exact HK.out)).1) hk))));(case aO=>exact(by(with_reducible repeat (first|apply ze|apply zf|apply zg));exact HO_0.out));(case aS=>exact(below_size (by repeat (first|(with_reducible first|exact HB.out|apply zh|apply zi|apply zj)|exact HB.out))));(case aL=>have:=LMc8.out;omega);intro v151 w9 ho hb hg hat;rw[←Ny150.out] at ho;have n0_:=zd (hb);have n1_:=zd (Kept.of_grown (S:=(fun k_=>P0_ k_)) hg (by repeat (first|(with_reducible first|exact HK.out|apply Kept.alloc|apply Kept.drewN|apply Kept.drew)|exact HK.out)) (fun k_ e_=>(HO_0.out.1 k_ e_)));have n2_:=zd (ho);clear HB;clear HK;clear HO_0;have HB:=n0_;have HK:=n1_;have HO152:=n2_;clear n0_ n1_ n2_;clear ho hb hg hat));go_roundg k1
      case measure=>have:=HK1.out;omega
      case rel=>exact⟨(y150),(wrap64 (x7_1-1)),(by first|rfl|(simp;done)|(simp[*];done)),H',⟨by have:=HK1.out;omega⟩,⟨by(with_reducible repeat (first|apply ze|apply zf|apply zg));exact HO152.out⟩,⟨by repeat (first|(with_reducible first|exact HK.out|apply Kept.alloc|apply Kept.drewN|apply Kept.drew)|exact HK.out)⟩,⟨by repeat (first|(with_reducible first|exact HB.out|apply zh|apply zi|apply zj)|exact HB.out)⟩⟩
     ·rw[if_neg c8] at H;exact absurd H (by simp)
    ·rw[if_neg c6] at H;exact absurd H (by simp)
   ·rw[if_neg c4] at H;have c4b0:decide (0<=x7_1)=false:=decide_eq_false c4;clear c4;obtain rfl:=Option.some.inj H;go_wp2;go_ret;exact⟨_,by first|rfl|(simp[errW_none,errW_some]<;>rfl)|(simp[*,errW_none,errW_some]<;>rfl),by(with_reducible repeat (first|apply ze|apply zf|apply zg));exact HO_0.out,by repeat (first|(with_reducible first|exact HB.out|apply zh|apply zi|apply zj)|exact HB.out),by repeat (first|(with_reducible first|exact HK.out|apply Kept.alloc|apply Kept.drewN|apply Kept.drew)|exact HK.out)⟩
end Go.Proofs.Ytjegeghigfmkoaa.X
namespace Go.Proofs.Ytjegeghigfmkoaa.X
open Go.RowKit Go.Proofs.YtjegeghigfmkoaaW.PrintWords Go.Proofs.YtjegeghigfmkoaaW.PrintLast Go.Proofs.YtjegeghigfmkoaaW.PrintMore
attribute [local go_sem] max2_int min2_int max_two min_two max_three min_three max_four min_four   -- for this text's walks alone
set_option linter.unusedVariables false
set_option linter.unusedSimpArgs false
def leatref1_Put.l0:Nat ->List Int ->Int ->Int ->Option (List Int)
 |0,_,_,_=>none
 |k+1,x0,x2,x7=>if x7≥0 then(if 0<=(wrap64 (8*x7)) then(if x0.length<140737488355328 then(leatref1_Put.l0 k (x0++[(shr .u64 x2 (wrap64 (8*x7))) % 256]) x2 (wrap64 (x7-1))) else(none)) else(none)) else(some x0)
def leatref1_Put.f (k:Nat) (l0:List Int) (a1:Int) (a2:Int):Option (List Int):=leatref1_Put.l0 k l0 a2 (wrap64 (a1-1))
set_option maxHeartbeats 8000000 in
set_option maxRecDepth 100000 in
theorem leatref1_Put.calls (k:Nat) (P0_:Nat ->Prop) (u9000_:Value) (l0:List Int) (a1:Int) (a2:Int) (r:List Int) (w0 w:World) (hB:Below w0.heap.size w0 w) (ho0:Kd.R (Kd.int .u8) 5 w w0.heap.size P0_ u9000_ l0) (h:leatref1_Put.f k l0 a1 a2=some r):
  Calls Try.prog 52 #[u9000_,.int .i64 a1,.int .u64 a2] w fun e w'=> ∃v0_:Value,e= .returned (v0_)/\Kd.R (Kd.int .u8) 5 w' w0.heap.size (fun k_=>(P0_ k_∨w.heap.size<=k_)) v0_ r/\Below w0.heap.size w0 w'/\Kept w w' (fun k_=>P0_ k_):=by
 have HO0:=zd (show Kd.R (Kd.int .u8) 5 w w0.heap.size (fun k_=>(P0_ k_∨w.heap.size<=k_)) u9000_ l0 from zq ho0 (fun k_ hk=>(.inl hk)));have HK:=zd (Kept.refl w (fun k_=>P0_ k_));have HW0:=zd hB.size;have HB:=zd hB;clear hB;have H:(leatref1_Put.l0 k l0 a2 (wrap64 (a1-1)))=some r:=h;clear h;have H' :=zd H;clear H;go_enter Try.func52,Try.ntmps52;go_wp2;go_loopg [0,7] k (fun kq v0 v7 w'=> ∃(x0_1:List Int) (x7_1:Int),v7= .int .i64 x7_1/\Aside0 (leatref1_Put.l0 kq x0_1 a2 x7_1=some r)/\Aside0 (kq<=k)/\Aside0 (Kd.R (Kd.int .u8) 5 w' w0.heap.size (fun k_=>(P0_ k_∨w.heap.size<=k_)) v0 x0_1)/\Aside0 (Kept w w' (fun k_=>P0_ k_))/\Aside0 (Below w0.heap.size w0 w'))
 case atStart=>exact⟨(l0),(wrap64 (a1-1)),(by first|rfl|(simp;done)|(simp[*];done)),H',⟨Nat.le_refl _⟩,⟨by(with_reducible repeat (first|apply ze|apply zf|apply zg));exact HO0.out⟩,⟨by repeat (first|(with_reducible first|exact HK.out|apply Kept.alloc|apply Kept.drewN|apply Kept.drew)|exact HK.out)⟩,⟨by repeat (first|(with_reducible first|exact HB.out|apply zh|apply zi|apply zj)|exact HB.out)⟩⟩
 case round=>
  clear H'
  try clear p2
  obtain⟨x0_1,x7_1,rfl,HA,HK1,HO_0,HK,HB⟩:=hrel;cases gk with
  |zero=>exact absurd HA.out (by simp[leatref1_Put.l0])
  | succ k1=>
   have H:=HA.out;clear HA;simp only[leatref1_Put.l0] at H;by_cases c4:x7_1≥0
   ·rw[if_pos c4] at H;have c4b0:decide (0<=x7_1)=true:=decide_eq_true c4;clear c4;obtain⟨ji5,hji5⟩: ∃j_:Int,(wrap64 (8*x7_1))=j_:=⟨_,rfl⟩
    replace H:(if 0<=(ji5) then(if x0_1.length<140737488355328 then(leatref1_Put.l0 k1 (x0_1++[(shr .u64 a2 (ji5)) % 256]) a2 (wrap64 (x7_1-1))) else(none)) else(none))=some r:=by first|(rw[hji5] at H;exact H)|(simp only[hji5] at H ⊢;exact H)
    have hji5w:(IntKind.i64.wrap (8*x7_1))=ji5:=(i64_w _).trans hji5;by_cases c6:0<=(ji5)
    ·rw[if_pos c6] at H;have c6b0:=eq_true c6;have c6b1:decide (0<=(ji5))=true:=decide_eq_true c6;clear c6;obtain⟨ji7,hji7⟩: ∃j_:Int,(shr .u64 a2 (ji5))=j_:=⟨_,rfl⟩
     replace H:(if x0_1.length<140737488355328 then(leatref1_Put.l0 k1 (x0_1++[(ji7) % 256]) a2 (wrap64 (x7_1-1))) else(none))=some r:=by first|(rw[hji7] at H;exact H)|(simp only[hji7] at H ⊢;exact H)
     have hji7_:(a2 / 2 ^ min (ji5).toNat 64)=ji7:=hji7;have hji7z:(ji5)<=64 ->(a2 / 2 ^ (ji5).toNat)=ji7:=shr_small hji7;by_cases c8:x0_1.length<140737488355328
     ·rw[if_pos c8] at H;have LMc8:=zd c8;clear c8;obtain⟨y274,hy274⟩: ∃y_:List Int,y_=(x0_1++[(ji7) % 256]):=⟨_,rfl⟩
      replace H:(leatref1_Put.l0 k1 y274 a2 (wrap64 (x7_1-1)))=some r:=by first|(rw[hy274];with_reducible exact H)|(have H2_:=(Option.bind_some _ _).symm.trans H;rw[hy274];with_reducible exact H2_)|(have H2_:=(Option.bind_some _ _).symm.trans H;with_reducible exact H2_)|with_reducible exact H|(rw[hy274];exact H)|exact H
      have Ny274:=zd hy274;clear hy274;have H' :=zd H;clear H;go_wp2_with (first|((with_reducible refine gate_builtin (b:= .append) (xs:= #[.tmp 14,.tmp 20]) rfl ?_);at_builtin;refine Kd.R_append (Kd.int .u8) (w0:=w0) w0.heap.size rfl (.tmp 14) (.tmp 20) 58 5 (.int .u8 0) 1 rfl Try.underlying58 info5 rfl (by decide) (by omega) u0 x0_1 ((ji7) % 256) [.int .u8 ((ji7) % 256)] (fun k_=>(P0_ k_∨w.heap.size<=k_)) (fun _=>False) rfl rfl ?aP (fun _ hk=>hk.elim) ?aF ?aO ?aB ?aS ?aL ?_;(case aP=>exact rfl);(case aB=>exact(by repeat (first|(with_reducible first|exact HB.out|apply zh|apply zi|apply zj)|exact HB.out)));(case aF=>exact(fun k_ hk=>(.inr (Nat.le_trans (by first|exact HK.out.1|exact(show Kept w _ (fun k_=>P0_ k_) from by repeat (first|(with_reducible first|exact HK.out|apply Kept.alloc|apply Kept.drewN|apply Kept.drew)|exact HK.out)).1) hk))));(case aO=>exact(by(with_reducible repeat (first|apply ze|apply zf|apply zg));exact HO_0.out));(case aS=>exact(below_size (by repeat (first|(with_reducible first|exact HB.out|apply zh|apply zi|apply zj)|exact HB.out))));(case aL=>have:=LMc8.out;omega);intro v275 w9 ho hb hg hat;rw[←Ny274.out] at ho;have n0_:=zd (hb);have n1_:=zd (Kept.of_grown (S:=(fun k_=>P0_ k_)) hg (by repeat (first|(with_reducible first|exact HK.out|apply Kept.alloc|apply Kept.drewN|apply Kept.drew)|exact HK.out)) (fun k_ e_=>(HO_0.out.1 k_ e_)));have n2_:=zd (ho);clear HB;clear HK;clear HO_0;have HB:=n0_;have HK:=n1_;have HO276:=n2_;clear n0_ n1_ n2_;clear ho hb hg hat));go_roundg k1
      case measure=>have:=HK1.out;omega
      case rel=>exact⟨(y274),(wrap64 (x7_1-1)),(by first|rfl|(simp;done)|(simp[*];done)),H',⟨by have:=HK1.out;omega⟩,⟨by(with_reducible repeat (first|apply ze|apply zf|apply zg));exact HO276.out⟩,⟨by repeat (first|(with_reducible first|exact HK.out|apply Kept.alloc|apply Kept.drewN|apply Kept.drew)|exact HK.out)⟩,⟨by repeat (first|(with_reducible first|exact HB.out|apply zh|apply zi|apply zj)|exact HB.out)⟩⟩
     ·rw[if_neg c8] at H;exact absurd H (by simp)
    ·rw[if_neg c6] at H;exact absurd H (by simp)
   ·rw[if_neg c4] at H;have c4b0:decide (0<=x7_1)=false:=decide_eq_false c4;clear c4;obtain rfl:=Option.some.inj H;go_wp2;go_ret;exact⟨_,by first|rfl|(simp[errW_none,errW_some]<;>rfl)|(simp[*,errW_none,errW_some]<;>rfl),by(with_reducible repeat (first|apply ze|apply zf|apply zg));exact HO_0.out,by repeat (first|(with_reducible first|exact HB.out|apply zh|apply zi|apply zj)|exact HB.out),by repeat (first|(with_reducible first|exact HK.out|apply Kept.alloc|apply Kept.drewN|apply Kept.drew)|exact HK.out)⟩
end Go.Proofs.Ytjegeghigfmkoaa.X
namespace Go.Proofs.Ytjegeghigfmkoaa.X
open Go.RowKit Go.Proofs.YtjegeghigfmkoaaW.PrintWords Go.Proofs.YtjegeghigfmkoaaW.PrintLast Go.Proofs.YtjegeghigfmkoaaW.PrintMore
attribute [local go_sem] max2_int min2_int max_two min_two max_three min_three max_four min_four   -- for this text's walks alone
set_option linter.unusedVariables false
set_option linter.unusedSimpArgs false
def state_taken.l0:Nat ->Int ->List Int ->Int ->Int ->Option (Int)
 |0,_,_,_,_=>none
 |k+1,x3,x6,x7,x8=>if x8<x7 then(if 0<=x8 then(if x8<(x6.length:Int) then(state_taken.l0 k (Go.bits .or .u64 (IntKind.u64.wrap (x3*256)) (IntKind.u64.wrap (rd x6 x8))) x6 x7 (wrap64 (x8+1))) else(none)) else(none)) else(some (wrap64 (x3)))
def state_taken.f (k:Nat) (l0:List Int):Option (Int):=state_taken.l0 k 0 l0 (l0.length:Int) 0
set_option maxHeartbeats 8000000 in
set_option maxRecDepth 100000 in
theorem state_taken.calls (k:Nat) (A0:Option Addr) (c0:Nat) (l0:List Int) (r:Int) (w:World) (hr0:Kd.C (Kd.int .u8) w A0 l0.length l0) (hc0:l0.length<=c0) (h:state_taken.f k l0=some r):
  Calls Try.prog 48 #[.slice A0 l0.length c0] w fun e w'=>e= .returned (.int .i64 r)/\Drawn0 w w' :=by
 have HR0:=zd hr0;have HC0:=zd hc0;clear hr0 hc0;have H:(state_taken.l0 k 0 l0 (l0.length:Int) 0)=some r:=h;clear h;have H' :=zd H;clear H;go_enter Try.func48,Try.ntmps48;go_wp2;go_loopg [3,8] k (fun kq v3 v8 w'=> ∃(x3_1:Int) (x8_1:Int),v3= .int .u64 x3_1/\v8= .int .i64 x8_1/\Aside0 (state_taken.l0 kq x3_1 l0 (l0.length:Int) x8_1=some r)/\Aside0 (kq<=k)/\Drawn0 w w')
 case atStart=>exact⟨(0),(0),(by first|rfl|(simp;done)|(simp[*];done)),(by first|rfl|(simp;done)|(simp[*];done)),H',⟨Nat.le_refl _⟩,by repeat (first|exact Drawn0.refl _|apply Drawn0.step)⟩
 case round=>
  clear H';obtain⟨x3_1,x8_1,rfl,rfl,HA,HK1,⟨m1,rfl⟩⟩:=hrel;cases gk with
  |zero=>exact absurd HA.out (by simp[state_taken.l0])
  | succ k1=>
   have H:=HA.out;clear HA;simp only[state_taken.l0] at H;by_cases c2:x8_1<(l0.length:Int)
   ·rw[if_pos c2] at H;have c2b0:decide (x8_1<(l0.length:Int))=true:=decide_eq_true c2;clear c2;by_cases c3:0<=x8_1
    ·rw[if_pos c3] at H;have c3b0:decide (0<=x8_1)=true:=decide_eq_true c3;clear c3;by_cases c4:x8_1<(l0.length:Int)
     ·rw[if_pos c4] at H;have c4b0:decide (x8_1<(l0.length:Int))=true:=decide_eq_true c4;clear c4;have H' :=zd H;clear H;have p153:0<=(x8_1:Int):=of_decide_eq_true (by first|(with_reducible assumption)|assumption);have q153:x8_1<(l0.length:Int):=of_decide_eq_true (by first|(with_reducible assumption)|assumption);obtain⟨ad153,e153,hx153_0⟩:=Kd.at_int HR0.out x8_1 p153 q153;cases e153;replace p153:=eq_true p153;replace q153:=eq_true q153;go_wp2;go_roundg k1
      case measure=>have:=HK1.out;omega
      case rel=>exact⟨(Go.bits .or .u64 (IntKind.u64.wrap (x3_1*256)) (IntKind.u64.wrap (rd l0 x8_1))),(wrap64 (x8_1+1)),(by first|rfl|(simp;done)|(simp[*];done)),(by first|rfl|(simp;done)|(simp[*];done)),H',⟨by have:=HK1.out;omega⟩,by repeat (first|exact Drawn0.refl _|apply Drawn0.step)⟩
     ·rw[if_neg c4] at H;exact absurd H (by simp)
    ·rw[if_neg c3] at H;exact absurd H (by simp)
   ·rw[if_neg c2] at H;have c2b0:decide (x8_1<(l0.length:Int))=false:=decide_eq_false c2;clear c2;obtain rfl:=Option.some.inj H;go_wp2;go_ret;exact⟨by first|rfl|(simp;done)|(simp[*];done),by repeat (first|exact Drawn0.refl _|apply Drawn0.step)⟩
end Go.Proofs.Ytjegeghigfmkoaa.X
namespace Go.Proofs.Ytjegeghigfmkoaa.X
open Go.RowKit Go.Proofs.YtjegeghigfmkoaaW.PrintWords Go.Proofs.YtjegeghigfmkoaaW.PrintLast Go.Proofs.YtjegeghigfmkoaaW.PrintMore
attribute [local go_sem] max2_int min2_int max_two min_two max_three min_three max_four min_four   -- for this text's walks alone
set_option linter.unusedVariables false
set_option linter.unusedSimpArgs false
def leatlaw12_bytes.l0:Nat ->List (S70) ->List Int ->Int ->Option (List Int)
 |0,_,_,_=>none
 |k+1,x0,x3,x4=>if x4<(x0.length:Int) then(if 0<=x4 then((leatref1_Put.f k x3 8 (IntKind.u64.wrap ((rd_T70 x0 x4).f0))).bind fun t281=>((leatref1_Put.f k t281 8 (IntKind.u64.wrap ((rd_T70 x0 x4).f1.f0))).bind fun t285=>((leatref1_Put.f k t285 8 (IntKind.u64.wrap ((rd_T70 x0 x4).f1.f1))).bind fun t289=>((leatref1_Put.f k t289 8 (IntKind.u64.wrap ((rd_T70 x0 x4).f2))).bind fun t293=>(leatlaw12_bytes.l0 k x0 t293 (wrap64 (x4+1))))))) else(none)) else(some x3)
def leatlaw12_bytes.f (k:Nat) (l0:List (S70)):Option (List Int):=(leatref1_Put.f k ([]:List Int) 4 (IntKind.u64.wrap ((l0.length:Int)))).bind fun t277=>(leatlaw12_bytes.l0 k l0 t277 0)
def leatlaw12_bytes.T5:Bool×List (List Nat×List Nat):=(true,[([],[]),([],[]),([],[]),([1,2],[1,2]),([3],[3]),([4],[4]),([5],[5]),([0,6],[0,6]),([],[]),([],[]),([8,9],[8,9]),([10],[10]),([11],[11]),([12],[12]),([13],[13]),([7,14,7],[7,14]),([15,15,0,1,2,3,4,5,6,7,8,9,10,11,12,13,14,15],[0,15])])
def leatlaw12_bytes.B5:List Nat:=[0,0,0,6,14,30,62,127,0,0,768,1792,3840,7936,16128,32767,65535]
theorem leatlaw12_bytes.tab5:rtab .any (opsOf Try.f28 5)=leatlaw12_bytes.T5:=by kernel_rfl
theorem leatlaw12_bytes.bits5:waitsOk leatlaw12_bytes.T5.2 leatlaw12_bytes.B5=true:=by kernel_rfl
def leatlaw12_bytes.T6:Bool×List (List Nat×List Nat):=(true,[([],[]),([],[]),([],[]),([1,2],[1,2]),([3],[3]),([4],[4]),([5],[5]),([6],[6]),([0,7],[0,7]),([],[]),([],[]),([9,10],[9,10]),([11],[11]),([12],[12]),([13],[13]),([8,14,8],[8,14]),([15,15,0,1,2,3,4,5,6,7,8,9,10,11,12,13,14,15],[0,15])])
def leatlaw12_bytes.B6:List Nat:=[0,0,0,6,14,30,62,126,255,0,0,1536,3584,7680,15872,32767,65535]
theorem leatlaw12_bytes.tab6:rtab .any (opsOf Try.f28 6)=leatlaw12_bytes.T6:=by kernel_rfl
theorem leatlaw12_bytes.bits6:waitsOk leatlaw12_bytes.T6.2 leatlaw12_bytes.B6=true:=by kernel_rfl
set_option maxHeartbeats 8000000 in
set_option maxRecDepth 100000 in
theorem leatlaw12_bytes.calls (k:Nat) (A0:Option Addr) (c0:Nat) (l0:List (S70)) (r:List Int) (w:World) (hr0:Kd.C k70 w A0 l0.length l0) (hc0:l0.length<=c0) (h:leatlaw12_bytes.f k l0=some r):
  Calls Try.prog 28 #[.slice A0 l0.length c0] w fun e w'=> ∃v0_:Value,e= .returned (v0_)/\Kd.R (Kd.int .u8) 5 w' w.heap.size (fun _=>True) v0_ r/\Below w.heap.size w w' :=by
 have HR0:=zd hr0;have HC0:=zd hc0;clear hr0 hc0;have HB:=zd (Below.refl w.heap.size w);have H:((leatref1_Put.f k ([]:List Int) 4 (IntKind.u64.wrap ((l0.length:Int)))).bind fun t277=>(leatlaw12_bytes.l0 k l0 t277 0))=some r:=h;clear h;replace H:=Option.bind_eq_some_iff.mp H;obtain⟨t277,A20,H⟩:=H;replace H:(leatlaw12_bytes.l0 k l0 t277 0)=some r:=H;have A2:=zd A20;clear A20;have H' :=zd H;clear H;go_enter Try.func28,Try.ntmps28;go_wp2_with (first|((with_reducible refine gate_callee (f:=52) rfl ?_);refine goesL_ (some 8) rfl rfl Try.func52 (by kernel_rfl) rfl #[.slice none 0 0,.int .i64 4,.int .u64 (IntKind.u64.wrap ((l0.length:Int)))] rfl (by(try simp only[List.map_toArray,List.map_cons,List.map_nil]);first|done|rfl|(simp only[List.length_drop,List.length_take];rfl)) ?_;(refine(leatref1_Put.calls k (fun k_=>some k_=(.slice none 0 0:Value).ownBlock) (.slice none 0 0) ([]:List Int) 4 (IntKind.u64.wrap ((l0.length:Int))) t277 w _ ?side1 ?side2 A2.out).mono ?_);(case side1=>repeat (first|(with_reducible first|exact HB.out|apply zh|apply zi|apply zj)|exact HB.out));(case side2=>exact Kd.R_nil _ _ _ _ _);rintro e w3 ⟨v278,rfl,ho0,hb,hkp⟩;refine⟨_,rfl,?_⟩;have n0_:=zd (zq (ok' :=fun k_=>True) ho0 (fun k_ hk_=>trivial));have n1_:=zd (hb);clear HB;have HO279:=n0_;have HB:=n1_;clear n0_ n1_;(try clear hb);(try clear hkp);(try clear ho0)));go_loopg [3,4] k (fun kq v3 v4 w'=> ∃(x3_1:List Int) (x4_1:Int),v4= .int .i64 x4_1/\Aside0 (leatlaw12_bytes.l0 kq l0 x3_1 x4_1=some r)/\Aside0 (kq<=k)/\Aside0 (Kd.R (Kd.int .u8) 5 w' w.heap.size (fun _=>True) v3 x3_1)/\Aside0 (Below w.heap.size w w'))
 case atStart=>exact⟨(t277),(0),(by first|rfl|(simp;done)|(simp[*];done)),H',⟨Nat.le_refl _⟩,⟨by(with_reducible repeat (first|apply ze|apply zf|apply zg));exact HO279.out⟩,⟨by repeat (first|(with_reducible first|exact HB.out|apply zh|apply zi|apply zj)|exact HB.out)⟩⟩
 case round=>
  clear H'
  try clear c2;try clear p2
  obtain⟨x3_1,x4_1,rfl,HA,HK1,HO_3,HB⟩:=hrel;cases gk with
  |zero=>exact absurd HA.out (by simp[leatlaw12_bytes.l0])
  | succ k1=>
   have H:=HA.out;clear HA;simp only[leatlaw12_bytes.l0] at H;by_cases c4:x4_1<(l0.length:Int)
   ·rw[if_pos c4] at H;have c4b0:decide (x4_1<(l0.length:Int))=true:=decide_eq_true c4;clear c4;by_cases c5:0<=x4_1
    ·rw[if_pos c5] at H;have c5b0:decide (0<=x4_1)=true:=decide_eq_true c5;clear c5;replace H:=Option.bind_eq_some_iff.mp H;obtain⟨t281,A60,H⟩:=H;replace H:((leatref1_Put.f k1 t281 8 (IntKind.u64.wrap ((rd_T70 l0 x4_1).f1.f0))).bind fun t285=>((leatref1_Put.f k1 t285 8 (IntKind.u64.wrap ((rd_T70 l0 x4_1).f1.f1))).bind fun t289=>((leatref1_Put.f k1 t289 8 (IntKind.u64.wrap ((rd_T70 l0 x4_1).f2))).bind fun t293=>(leatlaw12_bytes.l0 k1 l0 t293 (wrap64 (x4_1+1))))))=some r:=H;have A6:=zd A60;clear A60;replace H:=Option.bind_eq_some_iff.mp H;obtain⟨t285,A70,H⟩:=H;replace H:((leatref1_Put.f k1 t285 8 (IntKind.u64.wrap ((rd_T70 l0 x4_1).f1.f1))).bind fun t289=>((leatref1_Put.f k1 t289 8 (IntKind.u64.wrap ((rd_T70 l0 x4_1).f2))).bind fun t293=>(leatlaw12_bytes.l0 k1 l0 t293 (wrap64 (x4_1+1)))))=some r:=H;have A7:=zd A70;clear A70;replace H:=Option.bind_eq_some_iff.mp H;obtain⟨t289,A80,H⟩:=H;replace H:((leatref1_Put.f k1 t289 8 (IntKind.u64.wrap ((rd_T70 l0 x4_1).f2))).bind fun t293=>(leatlaw12_bytes.l0 k1 l0 t293 (wrap64 (x4_1+1))))=some r:=H;have A8:=zd A80;clear A80;replace H:=Option.bind_eq_some_iff.mp H;obtain⟨t293,A90,H⟩:=H;replace H:(leatlaw12_bytes.l0 k1 l0 t293 (wrap64 (x4_1+1)))=some r:=H;have A9:=zd A90;clear A90;have H' :=zd H;clear H
     try go_wp2
     have n0_:=zd (zg HO_3.out);have n1_:=zd (zj HB.out);clear HO_3;clear HB;have HO_3:=n0_;have HB:=n1_;clear n0_ n1_;have p280:0<=(x4_1:Int):=of_decide_eq_true (by first|(with_reducible assumption)|assumption);have q280:x4_1<(l0.length:Int):=of_decide_eq_true (by first|(with_reducible assumption)|assumption);obtain⟨ad280,e280,hx280_0,hx280_1,hx280_2,hx280_3⟩:=at_T70 HR0.out x4_1 p280 q280;have hw280_3:=hx280_3;have hw280_2:=hx280_2;have hw280_1:=hx280_1;have hw280_0:=hx280_0;cases e280;replace hx280_0:=(HB.out.cell (World.block_lt_of_cell? w _ hx280_0)).trans hx280_0;replace hx280_1:=(HB.out.cell (World.block_lt_of_cell? w _ hx280_1)).trans hx280_1;replace hx280_2:=(HB.out.cell (World.block_lt_of_cell? w _ hx280_2)).trans hx280_2;replace hx280_3:=(HB.out.cell (World.block_lt_of_cell? w _ hx280_3)).trans hx280_3;replace p280:=eq_true p280;replace q280:=eq_true q280;have p284:0<=(x4_1:Int):=of_decide_eq_true (by first|(with_reducible assumption)|assumption);have q284:x4_1<(l0.length:Int):=of_decide_eq_true (by first|(with_reducible assumption)|assumption);obtain⟨ad284,e284,hx284_0,hx284_1,hx284_2,hx284_3⟩:=at_T70 HR0.out x4_1 p284 q284;have hw284_3:=hx284_3;have hw284_2:=hx284_2;have hw284_1:=hx284_1;have hw284_0:=hx284_0;obtain rfl:ad280=ad284:=(by injection e284)
     replace hx284_0:=(HB.out.cell (World.block_lt_of_cell? w _ hx284_0)).trans hx284_0;replace hx284_1:=(HB.out.cell (World.block_lt_of_cell? w _ hx284_1)).trans hx284_1;replace hx284_2:=(HB.out.cell (World.block_lt_of_cell? w _ hx284_2)).trans hx284_2;replace hx284_3:=(HB.out.cell (World.block_lt_of_cell? w _ hx284_3)).trans hx284_3;replace p284:=eq_true p284;replace q284:=eq_true q284;obtain⟨Ao11,co11,eo11⟩:=Kd.R_slice HO_3.out
     (first|subst eo11|(injection eo11 with f1_ f2_ f3_;have f4_:=f1_.symm;have f5_:=f3_.symm;clear f1_ f2_ f3_;subst f4_;subst f5_))
     refine start_ (n:=17) (S:=fun w'=>w'.cell? (ad280.add ((x4_1).toNat*4))=some (.int .i64 ((rd_T70 l0 x4_1).f0))/\w'.cell? ⟨(ad280.add ((x4_1).toNat*4)).block,(ad280.add ((x4_1).toNat*4)).off+1,none⟩=some (.int .i64 ((rd_T70 l0 x4_1).f1.f0))/\w'.cell? ⟨(ad280.add ((x4_1).toNat*4)).block,(ad280.add ((x4_1).toNat*4)).off+2,none⟩=some (.int .i64 ((rd_T70 l0 x4_1).f1.f1))/\w'.cell? ⟨(ad280.add ((x4_1).toNat*4)).block,(ad280.add ((x4_1).toNat*4)).off+3,none⟩=some (.int .i64 ((rd_T70 l0 x4_1).f2))/\w'.cell? (ad280.add ((x4_1).toNat*4))=some (.int .i64 ((rd_T70 l0 x4_1).f0))/\w'.cell? ⟨(ad280.add ((x4_1).toNat*4)).block,(ad280.add ((x4_1).toNat*4)).off+1,none⟩=some (.int .i64 ((rd_T70 l0 x4_1).f1.f0))/\w'.cell? ⟨(ad280.add ((x4_1).toNat*4)).block,(ad280.add ((x4_1).toNat*4)).off+2,none⟩=some (.int .i64 ((rd_T70 l0 x4_1).f1.f1))/\w'.cell? ⟨(ad280.add ((x4_1).toNat*4)).block,(ad280.add ((x4_1).toNat*4)).off+3,none⟩=some (.int .i64 ((rd_T70 l0 x4_1).f2))) (ds:=[]) #[f_,f_,f_,f_,f_,f_,f_,f_,f_,f_,f_,f_,f_,f_,f_,f_,f_] (by kernel_rfl) rfl rfl ⟨((HB.out.cell (World.block_lt_of_cell? w _ hw280_0)).trans hw280_0),((HB.out.cell (World.block_lt_of_cell? w _ hw280_1)).trans hw280_1),((HB.out.cell (World.block_lt_of_cell? w _ hw280_2)).trans hw280_2),((HB.out.cell (World.block_lt_of_cell? w _ hw280_3)).trans hw280_3),((HB.out.cell (World.block_lt_of_cell? w _ hw284_0)).trans hw284_0),((HB.out.cell (World.block_lt_of_cell? w _ hw284_1)).trans hw284_1),((HB.out.cell (World.block_lt_of_cell? w _ hw284_2)).trans hw284_2),((HB.out.cell (World.block_lt_of_cell? w _ hw284_3)).trans hw284_3)⟩ (fun hHeld=> ?_);refine with_tabW leatlaw12_bytes.tab5 leatlaw12_bytes.bits5 (fun HT_ HW_=> ?_);generalize wr.drew=w10 at HO_3 HB hx280_0 hx280_1 hx280_2 hx280_3 hx284_0 hx284_1 hx284_2 hx284_3 hHeld ⊢;refine pure_ (i:=0) (N:=some 15) (v:= ?_) (a' := ?_) #[t_,f_,f_,f_,f_,f_,f_,f_,f_,f_,f_,f_,f_,f_,f_,f_,f_] rfl rfl (any_of HT_.out (by kernel_rfl)) (fun _ _ _ h=>h) (Or.inl ⟨by rfl,?_⟩) ?_ ?_;rotate_left
     ·intro w';go_simp
      with_reducible rfl
     rotate_left
     ·simp only[Act.put,za,zb,zc,i64_w,i32_w];rfl
     refine pure_ (i:=1) (N:=some 16) (v:= ?_) (a' := ?_) #[t_,t_,f_,f_,f_,f_,f_,f_,f_,f_,f_,f_,f_,f_,f_,f_,f_] rfl rfl (any_of HT_.out (by kernel_rfl)) (fun _ _ _ h=>h) (Or.inl ⟨by rfl,?_⟩) ?_ ?_;rotate_left
     ·intro w';go_simp
      with_reducible rfl
     rotate_left
     ·simp only[Act.put,za,zb,zc,i64_w,i32_w];rfl
     refine pure_ (i:=2) (N:=some 17) (v:= ?_) (a' := ?_) #[t_,t_,t_,f_,f_,f_,f_,f_,f_,f_,f_,f_,f_,f_,f_,f_,f_] rfl rfl (any_of HT_.out (by kernel_rfl)) (fun _ _ _ h=>h) (Or.inl ⟨by rfl,?_⟩) ?_ ?_;rotate_left
     ·intro w';go_simp
      with_reducible rfl
     rotate_left
     ·simp only[Act.put,za,zb,zc,i64_w,i32_w];rfl
     refine pure_ (i:=3) (N:=some 18) (v:= ?_) (a' := ?_) #[t_,t_,t_,t_,f_,f_,f_,f_,f_,f_,f_,f_,f_,f_,f_,f_,f_] rfl rfl (any_of HT_.out (by kernel_rfl)) (fun _ _ _ h=>h) (Or.inl ⟨by rfl,?_⟩) ?_ ?_;rotate_left
     ·intro w';go_simp
      with_reducible rfl
     rotate_left
     ·simp only[Act.put,za,zb,zc,i64_w,i32_w];rfl
     refine pure_ (i:=4) (N:=some 19) (v:= ?_) (a' := ?_) #[t_,t_,t_,t_,t_,f_,f_,f_,f_,f_,f_,f_,f_,f_,f_,f_,f_] rfl rfl (any_of HT_.out (by kernel_rfl)) (fun _ _ _ h=>h) (Or.inl ⟨by rfl,?_⟩) ?_ ?_;rotate_left
     ·intro w';go_simp
      with_reducible rfl
     rotate_left
     ·simp only[Act.put,za,zb,zc,i64_w,i32_w];rfl
     refine pure_ (i:=8) (N:=some 23) (v:= ?_) (a' := ?_) #[t_,t_,t_,t_,t_,f_,f_,f_,t_,f_,f_,f_,f_,f_,f_,f_,f_] rfl rfl (any_of HT_.out (by kernel_rfl)) (fun _ _ _ h=>h) (Or.inl ⟨by rfl,?_⟩) ?_ ?_;rotate_left
     ·intro w';go_simp
      with_reducible rfl
     rotate_left
     ·simp only[Act.put,za,zb,zc,i64_w,i32_w];rfl
     refine pure_ (i:=9) (N:=some 24) (v:= ?_) (a' := ?_) #[t_,t_,t_,t_,t_,f_,f_,f_,t_,t_,f_,f_,f_,f_,f_,f_,f_] rfl rfl (any_of HT_.out (by kernel_rfl)) (fun _ _ _ h=>h) (Or.inl ⟨by rfl,?_⟩) ?_ ?_;rotate_left
     ·intro w';go_simp
      with_reducible rfl
     rotate_left
     ·simp only[Act.put,za,zb,zc,i64_w,i32_w];rfl
     refine pure_ (i:=10) (N:=some 25) (v:= ?_) (a' := ?_) #[t_,t_,t_,t_,t_,f_,f_,f_,t_,t_,t_,f_,f_,f_,f_,f_,f_] rfl rfl (any_of HT_.out (by kernel_rfl)) (fun _ _ _ h=>h) (Or.inl ⟨by rfl,?_⟩) ?_ ?_;rotate_left
     ·intro w';go_simp
      with_reducible rfl
     rotate_left
     ·simp only[Act.put,za,zb,zc,i64_w,i32_w];rfl
     refine pure_ (i:=11) (N:=some 26) (v:= ?_) (a' := ?_) #[t_,t_,t_,t_,t_,f_,f_,f_,t_,t_,t_,t_,f_,f_,f_,f_,f_] rfl rfl (any_of HT_.out (by kernel_rfl)) (fun _ _ _ h=>h) (Or.inl ⟨by rfl,?_⟩) ?_ ?_;rotate_left
     ·intro w';go_simp
      with_reducible rfl
     rotate_left
     ·simp only[Act.put,za,zb,zc,i64_w,i32_w];rfl
     refine pure_ (i:=12) (N:=some 27) (v:= ?_) (a' := ?_) #[t_,t_,t_,t_,t_,f_,f_,f_,t_,t_,t_,t_,t_,f_,f_,f_,f_] rfl rfl (any_of HT_.out (by kernel_rfl)) (fun _ _ _ h=>h) (Or.inl ⟨by rfl,?_⟩) ?_ ?_;rotate_left
     ·intro w';go_simp
      with_reducible rfl
     rotate_left
     ·simp only[Act.put,za,zb,zc,i64_w,i32_w];rfl
     refine take_ (i:=5) (N:=some 20) (v:= ?_) (a' := ?_) #[t_,t_,t_,t_,t_,t_,f_,f_,t_,t_,t_,t_,t_,f_,f_,f_,f_] rfl rfl (take_ofW HT_.out HW_.out (by kernel_rfl)) (fun _ _ _ h=>h) (Or.inl ⟨by rfl,?_⟩) hHeld ?_ ?_;rotate_left
     ·rintro w' ⟨s0,s1,s2,s3,s4,s5,s6,s7⟩;go_simp
      with_reducible rfl
     rotate_left
     ·simp only[Act.put,za,zb,zc,i64_w,i32_w];rfl
     refine pure_ (i:=6) (N:=some 21) (v:= ?_) (a' := ?_) #[t_,t_,t_,t_,t_,t_,t_,f_,t_,t_,t_,t_,t_,f_,f_,f_,f_] rfl rfl (any_of HT_.out (by kernel_rfl)) (fun _ _ _ h=>h) (Or.inl ⟨by rfl,?_⟩) ?_ ?_;rotate_left
     ·intro w';go_simp
      with_reducible rfl
     rotate_left
     ·simp only[Act.put,za,zb,zc,i64_w,i32_w];rfl
     refine take_ (i:=13) (N:=some 28) (v:= ?_) (a' := ?_) #[t_,t_,t_,t_,t_,t_,t_,f_,t_,t_,t_,t_,t_,t_,f_,f_,f_] rfl rfl (take_ofW HT_.out HW_.out (by kernel_rfl)) (fun _ _ _ h=>h) (Or.inl ⟨by rfl,?_⟩) hHeld ?_ ?_;rotate_left
     ·rintro w' ⟨s0,s1,s2,s3,s4,s5,s6,s7⟩;go_simp
      with_reducible rfl
     rotate_left
     ·simp only[Act.put,za,zb,zc,i64_w,i32_w];rfl
     refine pure_ (i:=14) (N:=some 29) (v:= ?_) (a' := ?_) #[t_,t_,t_,t_,t_,t_,t_,f_,t_,t_,t_,t_,t_,t_,t_,f_,f_] rfl rfl (any_of HT_.out (by kernel_rfl)) (fun _ _ _ h=>h) (Or.inl ⟨by rfl,?_⟩) ?_ ?_;rotate_left
     ·intro w';go_simp
      with_reducible rfl
     rotate_left
     ·simp only[Act.put,za,zb,zc,i64_w,i32_w];rfl
     refine one_ (i:=7) (N:=some 22) #[t_,t_,t_,t_,t_,t_,t_,t_,t_,t_,t_,t_,t_,t_,t_,f_,f_] rfl rfl (one_of HT_.out (by kernel_rfl)) (by decide) (fun K hK=> ?_);refine goes_ Try.func52 (by kernel_rfl) rfl #[.slice Ao11 x3_1.length co11,.int .i64 8,.int .u64 (IntKind.u64.wrap ((rd_T70 l0 x4_1).f0))] (by rfl) rfl rfl (by(try simp only[List.map_toArray,List.map_cons,List.map_nil]);first|done|rfl|(simp only[List.length_drop,List.length_take];rfl)) ?_
     with_reducible refine(leatref1_Put.calls k1 (fun k_=>some k_=(.slice Ao11 x3_1.length co11:Value).ownBlock) (.slice Ao11 x3_1.length co11) x3_1 8 (IntKind.u64.wrap ((rd_T70 l0 x4_1).f0)) t281 w _ ?side1 ?side2 A6.out).mono ?_
     (case side1=>repeat (first|(with_reducible first|exact HB.out|apply zh|apply zi|apply zj)|exact HB.out))
     (case side2=>exact Kd.R_tight rfl HO_3.out)
     rintro e w12 ⟨v282,rfl,ho0,hb,hkp⟩;refine⟨_,rfl,?_⟩;have n0_:=zd (zq (ok' :=fun k_=>True) ho0 (fun k_ hk_=>trivial));have n1_:=zd (hb);clear HB;clear HO_3;have HO283:=n0_;have HB:=n1_;clear n0_ n1_
     (try clear hb)
     (try clear hkp)
     (try clear ho0)
     obtain⟨Ao13,co13,eo13⟩:=Kd.R_slice HO283.out
     (first|subst eo13|(injection eo13 with f1_ f2_ f3_;have f4_:=f1_.symm;have f5_:=f3_.symm;clear f1_ f2_ f3_;subst f4_;subst f5_))
     refine hK.out _ _ ⟨((HB.out.cell (World.block_lt_of_cell? w _ hw280_0)).trans hw280_0),((HB.out.cell (World.block_lt_of_cell? w _ hw280_1)).trans hw280_1),((HB.out.cell (World.block_lt_of_cell? w _ hw280_2)).trans hw280_2),((HB.out.cell (World.block_lt_of_cell? w _ hw280_3)).trans hw280_3),((HB.out.cell (World.block_lt_of_cell? w _ hw284_0)).trans hw284_0),((HB.out.cell (World.block_lt_of_cell? w _ hw284_1)).trans hw284_1),((HB.out.cell (World.block_lt_of_cell? w _ hw284_2)).trans hw284_2),((HB.out.cell (World.block_lt_of_cell? w _ hw284_3)).trans hw284_3)⟩ (fun hHeld=> ?_);clear hK K;refine norm_ (a' := ?_) ?_ ?_;rotate_left
     ·show Act.put _ (some 22) _=_;simp only[Act.put,za,zb,zc,i64_w,i32_w];rfl
     refine one_ (i:=15) (N:=some 30) #[t_,t_,t_,t_,t_,t_,t_,t_,t_,t_,t_,t_,t_,t_,t_,t_,f_] rfl rfl (one_of HT_.out (by kernel_rfl)) (by decide) (fun K hK=> ?_);refine goes_ Try.func52 (by kernel_rfl) rfl #[.slice Ao13 t281.length co13,.int .i64 8,.int .u64 (IntKind.u64.wrap ((rd_T70 l0 x4_1).f1.f0))] (by rfl) rfl rfl (by(try simp only[List.map_toArray,List.map_cons,List.map_nil]);first|done|rfl|(simp only[List.length_drop,List.length_take];rfl)) ?_
     with_reducible refine(leatref1_Put.calls k1 (fun k_=>some k_=(.slice Ao13 t281.length co13:Value).ownBlock) (.slice Ao13 t281.length co13) t281 8 (IntKind.u64.wrap ((rd_T70 l0 x4_1).f1.f0)) t285 w _ ?side1 ?side2 A7.out).mono ?_
     (case side1=>repeat (first|(with_reducible first|exact HB.out|apply zh|apply zi|apply zj)|exact HB.out))
     (case side2=>exact Kd.R_tight rfl HO283.out)
     rintro e w14 ⟨v286,rfl,ho0,hb,hkp⟩;refine⟨_,rfl,?_⟩;have n0_:=zd (zq (ok' :=fun k_=>True) ho0 (fun k_ hk_=>trivial));have n1_:=zd (hb);clear HB;clear HO283;have HO287:=n0_;have HB:=n1_;clear n0_ n1_
     (try clear hb)
     (try clear hkp)
     (try clear ho0)
     refine hK.out _ _ ⟨((HB.out.cell (World.block_lt_of_cell? w _ hw280_0)).trans hw280_0),((HB.out.cell (World.block_lt_of_cell? w _ hw280_1)).trans hw280_1),((HB.out.cell (World.block_lt_of_cell? w _ hw280_2)).trans hw280_2),((HB.out.cell (World.block_lt_of_cell? w _ hw280_3)).trans hw280_3),((HB.out.cell (World.block_lt_of_cell? w _ hw284_0)).trans hw284_0),((HB.out.cell (World.block_lt_of_cell? w _ hw284_1)).trans hw284_1),((HB.out.cell (World.block_lt_of_cell? w _ hw284_2)).trans hw284_2),((HB.out.cell (World.block_lt_of_cell? w _ hw284_3)).trans hw284_3)⟩ (fun hHeld=> ?_);clear hK K;refine norm_ (a' := ?_) ?_ ?_;rotate_left
     ·show Act.put _ (some 30) _=_;simp only[Act.put,za,zb,zc,i64_w,i32_w];rfl
     refine pure_ (i:=16) (N:=some 3) (v:= ?_) (a' := ?_) #[t_,t_,t_,t_,t_,t_,t_,t_,t_,t_,t_,t_,t_,t_,t_,t_,t_] rfl rfl (any_of HT_.out (by kernel_rfl)) (fun _ _ _ h=>h) (Or.inl ⟨by rfl,?_⟩) ?_ ?_;rotate_left
     ·intro w';go_simp
      with_reducible rfl
     rotate_left
     ·simp only[Act.put,za,zb,zc,i64_w,i32_w];rfl
     refine done_ (done_of HT_.out (by kernel_rfl)) ?_
     try go_wp2
     have n0_:=zd (zg HO287.out);have n1_:=zd (zj HB.out);clear HO287;clear HB;have HO287:=n0_;have HB:=n1_;clear n0_ n1_;have p288:0<=(x4_1:Int):=of_decide_eq_true (by first|(with_reducible assumption)|assumption);have q288:x4_1<(l0.length:Int):=of_decide_eq_true (by first|(with_reducible assumption)|assumption);obtain⟨ad288,e288,hx288_0,hx288_1,hx288_2,hx288_3⟩:=at_T70 HR0.out x4_1 p288 q288;have hw288_3:=hx288_3;have hw288_2:=hx288_2;have hw288_1:=hx288_1;have hw288_0:=hx288_0;obtain rfl:ad280=ad288:=(by injection e288)
     replace hx288_0:=(HB.out.cell (World.block_lt_of_cell? w _ hx288_0)).trans hx288_0;replace hx288_1:=(HB.out.cell (World.block_lt_of_cell? w _ hx288_1)).trans hx288_1;replace hx288_2:=(HB.out.cell (World.block_lt_of_cell? w _ hx288_2)).trans hx288_2;replace hx288_3:=(HB.out.cell (World.block_lt_of_cell? w _ hx288_3)).trans hx288_3;replace p288:=eq_true p288;replace q288:=eq_true q288;have p292:0<=(x4_1:Int):=of_decide_eq_true (by first|(with_reducible assumption)|assumption);have q292:x4_1<(l0.length:Int):=of_decide_eq_true (by first|(with_reducible assumption)|assumption);obtain⟨ad292,e292,hx292_0,hx292_1,hx292_2,hx292_3⟩:=at_T70 HR0.out x4_1 p292 q292;have hw292_3:=hx292_3;have hw292_2:=hx292_2;have hw292_1:=hx292_1;have hw292_0:=hx292_0;obtain rfl:ad280=ad292:=(by injection e292)
     replace hx292_0:=(HB.out.cell (World.block_lt_of_cell? w _ hx292_0)).trans hx292_0;replace hx292_1:=(HB.out.cell (World.block_lt_of_cell? w _ hx292_1)).trans hx292_1;replace hx292_2:=(HB.out.cell (World.block_lt_of_cell? w _ hx292_2)).trans hx292_2;replace hx292_3:=(HB.out.cell (World.block_lt_of_cell? w _ hx292_3)).trans hx292_3;replace p292:=eq_true p292;replace q292:=eq_true q292;obtain⟨Ao16,co16,eo16⟩:=Kd.R_slice HO287.out
     (first|subst eo16|(injection eo16 with f1_ f2_ f3_;have f4_:=f1_.symm;have f5_:=f3_.symm;clear f1_ f2_ f3_;subst f4_;subst f5_))
     refine start_ (n:=17) (S:=fun w'=>w'.cell? (ad280.add ((x4_1).toNat*4))=some (.int .i64 ((rd_T70 l0 x4_1).f0))/\w'.cell? ⟨(ad280.add ((x4_1).toNat*4)).block,(ad280.add ((x4_1).toNat*4)).off+1,none⟩=some (.int .i64 ((rd_T70 l0 x4_1).f1.f0))/\w'.cell? ⟨(ad280.add ((x4_1).toNat*4)).block,(ad280.add ((x4_1).toNat*4)).off+2,none⟩=some (.int .i64 ((rd_T70 l0 x4_1).f1.f1))/\w'.cell? ⟨(ad280.add ((x4_1).toNat*4)).block,(ad280.add ((x4_1).toNat*4)).off+3,none⟩=some (.int .i64 ((rd_T70 l0 x4_1).f2))/\w'.cell? (ad280.add ((x4_1).toNat*4))=some (.int .i64 ((rd_T70 l0 x4_1).f0))/\w'.cell? ⟨(ad280.add ((x4_1).toNat*4)).block,(ad280.add ((x4_1).toNat*4)).off+1,none⟩=some (.int .i64 ((rd_T70 l0 x4_1).f1.f0))/\w'.cell? ⟨(ad280.add ((x4_1).toNat*4)).block,(ad280.add ((x4_1).toNat*4)).off+2,none⟩=some (.int .i64 ((rd_T70 l0 x4_1).f1.f1))/\w'.cell? ⟨(ad280.add ((x4_1).toNat*4)).block,(ad280.add ((x4_1).toNat*4)).off+3,none⟩=some (.int .i64 ((rd_T70 l0 x4_1).f2))) (ds:=[]) #[f_,f_,f_,f_,f_,f_,f_,f_,f_,f_,f_,f_,f_,f_,f_,f_,f_] (by kernel_rfl) rfl rfl ⟨((HB.out.cell (World.block_lt_of_cell? w _ hw288_0)).trans hw288_0),((HB.out.cell (World.block_lt_of_cell? w _ hw288_1)).trans hw288_1),((HB.out.cell (World.block_lt_of_cell? w _ hw288_2)).trans hw288_2),((HB.out.cell (World.block_lt_of_cell? w _ hw288_3)).trans hw288_3),((HB.out.cell (World.block_lt_of_cell? w _ hw292_0)).trans hw292_0),((HB.out.cell (World.block_lt_of_cell? w _ hw292_1)).trans hw292_1),((HB.out.cell (World.block_lt_of_cell? w _ hw292_2)).trans hw292_2),((HB.out.cell (World.block_lt_of_cell? w _ hw292_3)).trans hw292_3)⟩ (fun hHeld=> ?_);refine with_tabW leatlaw12_bytes.tab6 leatlaw12_bytes.bits6 (fun HT_ HW_=> ?_);generalize w14.drew=w15 at HO287 HB hx288_0 hx288_1 hx288_2 hx288_3 hx292_0 hx292_1 hx292_2 hx292_3 hHeld ⊢;refine pure_ (i:=0) (N:=some 31) (v:= ?_) (a' := ?_) #[t_,f_,f_,f_,f_,f_,f_,f_,f_,f_,f_,f_,f_,f_,f_,f_,f_] rfl rfl (any_of HT_.out (by kernel_rfl)) (fun _ _ _ h=>h) (Or.inl ⟨by rfl,?_⟩) ?_ ?_;rotate_left
     ·intro w';go_simp
      with_reducible rfl
     rotate_left
     ·simp only[Act.put,za,zb,zc,i64_w,i32_w];rfl
     refine pure_ (i:=1) (N:=some 32) (v:= ?_) (a' := ?_) #[t_,t_,f_,f_,f_,f_,f_,f_,f_,f_,f_,f_,f_,f_,f_,f_,f_] rfl rfl (any_of HT_.out (by kernel_rfl)) (fun _ _ _ h=>h) (Or.inl ⟨by rfl,?_⟩) ?_ ?_;rotate_left
     ·intro w';go_simp
      with_reducible rfl
     rotate_left
     ·simp only[Act.put,za,zb,zc,i64_w,i32_w];rfl
     refine pure_ (i:=2) (N:=some 33) (v:= ?_) (a' := ?_) #[t_,t_,t_,f_,f_,f_,f_,f_,f_,f_,f_,f_,f_,f_,f_,f_,f_] rfl rfl (any_of HT_.out (by kernel_rfl)) (fun _ _ _ h=>h) (Or.inl ⟨by rfl,?_⟩) ?_ ?_;rotate_left
     ·intro w';go_simp
      with_reducible rfl
     rotate_left
     ·simp only[Act.put,za,zb,zc,i64_w,i32_w];rfl
     refine pure_ (i:=3) (N:=some 34) (v:= ?_) (a' := ?_) #[t_,t_,t_,t_,f_,f_,f_,f_,f_,f_,f_,f_,f_,f_,f_,f_,f_] rfl rfl (any_of HT_.out (by kernel_rfl)) (fun _ _ _ h=>h) (Or.inl ⟨by rfl,?_⟩) ?_ ?_;rotate_left
     ·intro w';go_simp
      with_reducible rfl
     rotate_left
     ·simp only[Act.put,za,zb,zc,i64_w,i32_w];rfl
     refine pure_ (i:=4) (N:=some 35) (v:= ?_) (a' := ?_) #[t_,t_,t_,t_,t_,f_,f_,f_,f_,f_,f_,f_,f_,f_,f_,f_,f_] rfl rfl (any_of HT_.out (by kernel_rfl)) (fun _ _ _ h=>h) (Or.inl ⟨by rfl,?_⟩) ?_ ?_;rotate_left
     ·intro w';go_simp
      with_reducible rfl
     rotate_left
     ·simp only[Act.put,za,zb,zc,i64_w,i32_w];rfl
     refine pure_ (i:=5) (N:=some 36) (v:= ?_) (a' := ?_) #[t_,t_,t_,t_,t_,t_,f_,f_,f_,f_,f_,f_,f_,f_,f_,f_,f_] rfl rfl (any_of HT_.out (by kernel_rfl)) (fun _ _ _ h=>h) (Or.inl ⟨by rfl,?_⟩) ?_ ?_;rotate_left
     ·intro w';go_simp
      with_reducible rfl
     rotate_left
     ·simp only[Act.put,za,zb,zc,i64_w,i32_w];rfl
     refine pure_ (i:=9) (N:=some 40) (v:= ?_) (a' := ?_) #[t_,t_,t_,t_,t_,t_,f_,f_,f_,t_,f_,f_,f_,f_,f_,f_,f_] rfl rfl (any_of HT_.out (by kernel_rfl)) (fun _ _ _ h=>h) (Or.inl ⟨by rfl,?_⟩) ?_ ?_;rotate_left
     ·intro w';go_simp
      with_reducible rfl
     rotate_left
     ·simp only[Act.put,za,zb,zc,i64_w,i32_w];rfl
     refine pure_ (i:=10) (N:=some 41) (v:= ?_) (a' := ?_) #[t_,t_,t_,t_,t_,t_,f_,f_,f_,t_,t_,f_,f_,f_,f_,f_,f_] rfl rfl (any_of HT_.out (by kernel_rfl)) (fun _ _ _ h=>h) (Or.inl ⟨by rfl,?_⟩) ?_ ?_;rotate_left
     ·intro w';go_simp
      with_reducible rfl
     rotate_left
     ·simp only[Act.put,za,zb,zc,i64_w,i32_w];rfl
     refine pure_ (i:=11) (N:=some 42) (v:= ?_) (a' := ?_) #[t_,t_,t_,t_,t_,t_,f_,f_,f_,t_,t_,t_,f_,f_,f_,f_,f_] rfl rfl (any_of HT_.out (by kernel_rfl)) (fun _ _ _ h=>h) (Or.inl ⟨by rfl,?_⟩) ?_ ?_;rotate_left
     ·intro w';go_simp
      with_reducible rfl
     rotate_left
     ·simp only[Act.put,za,zb,zc,i64_w,i32_w];rfl
     refine pure_ (i:=12) (N:=some 43) (v:= ?_) (a' := ?_) #[t_,t_,t_,t_,t_,t_,f_,f_,f_,t_,t_,t_,t_,f_,f_,f_,f_] rfl rfl (any_of HT_.out (by kernel_rfl)) (fun _ _ _ h=>h) (Or.inl ⟨by rfl,?_⟩) ?_ ?_;rotate_left
     ·intro w';go_simp
      with_reducible rfl
     rotate_left
     ·simp only[Act.put,za,zb,zc,i64_w,i32_w];rfl
     refine take_ (i:=6) (N:=some 37) (v:= ?_) (a' := ?_) #[t_,t_,t_,t_,t_,t_,t_,f_,f_,t_,t_,t_,t_,f_,f_,f_,f_] rfl rfl (take_ofW HT_.out HW_.out (by kernel_rfl)) (fun _ _ _ h=>h) (Or.inl ⟨by rfl,?_⟩) hHeld ?_ ?_;rotate_left
     ·rintro w' ⟨s0,s1,s2,s3,s4,s5,s6,s7⟩;go_simp
      with_reducible rfl
     rotate_left
     ·simp only[Act.put,za,zb,zc,i64_w,i32_w];rfl
     refine pure_ (i:=7) (N:=some 38) (v:= ?_) (a' := ?_) #[t_,t_,t_,t_,t_,t_,t_,t_,f_,t_,t_,t_,t_,f_,f_,f_,f_] rfl rfl (any_of HT_.out (by kernel_rfl)) (fun _ _ _ h=>h) (Or.inl ⟨by rfl,?_⟩) ?_ ?_;rotate_left
     ·intro w';go_simp
      with_reducible rfl
     rotate_left
     ·simp only[Act.put,za,zb,zc,i64_w,i32_w];rfl
     refine take_ (i:=13) (N:=some 44) (v:= ?_) (a' := ?_) #[t_,t_,t_,t_,t_,t_,t_,t_,f_,t_,t_,t_,t_,t_,f_,f_,f_] rfl rfl (take_ofW HT_.out HW_.out (by kernel_rfl)) (fun _ _ _ h=>h) (Or.inl ⟨by rfl,?_⟩) hHeld ?_ ?_;rotate_left
     ·rintro w' ⟨s0,s1,s2,s3,s4,s5,s6,s7⟩;go_simp
      with_reducible rfl
     rotate_left
     ·simp only[Act.put,za,zb,zc,i64_w,i32_w];rfl
     refine pure_ (i:=14) (N:=some 45) (v:= ?_) (a' := ?_) #[t_,t_,t_,t_,t_,t_,t_,t_,f_,t_,t_,t_,t_,t_,t_,f_,f_] rfl rfl (any_of HT_.out (by kernel_rfl)) (fun _ _ _ h=>h) (Or.inl ⟨by rfl,?_⟩) ?_ ?_;rotate_left
     ·intro w';go_simp
      with_reducible rfl
     rotate_left
     ·simp only[Act.put,za,zb,zc,i64_w,i32_w];rfl
     refine one_ (i:=8) (N:=some 39) #[t_,t_,t_,t_,t_,t_,t_,t_,t_,t_,t_,t_,t_,t_,t_,f_,f_] rfl rfl (one_of HT_.out (by kernel_rfl)) (by decide) (fun K hK=> ?_);refine goes_ Try.func52 (by kernel_rfl) rfl #[.slice Ao16 t285.length co16,.int .i64 8,.int .u64 (IntKind.u64.wrap ((rd_T70 l0 x4_1).f1.f1))] (by rfl) rfl rfl (by(try simp only[List.map_toArray,List.map_cons,List.map_nil]);first|done|rfl|(simp only[List.length_drop,List.length_take];rfl)) ?_
     with_reducible refine(leatref1_Put.calls k1 (fun k_=>some k_=(.slice Ao16 t285.length co16:Value).ownBlock) (.slice Ao16 t285.length co16) t285 8 (IntKind.u64.wrap ((rd_T70 l0 x4_1).f1.f1)) t289 w _ ?side1 ?side2 A8.out).mono ?_
     (case side1=>repeat (first|(with_reducible first|exact HB.out|apply zh|apply zi|apply zj)|exact HB.out))
     (case side2=>exact Kd.R_tight rfl HO287.out)
     rintro e w17 ⟨v290,rfl,ho0,hb,hkp⟩;refine⟨_,rfl,?_⟩;have n0_:=zd (zq (ok' :=fun k_=>True) ho0 (fun k_ hk_=>trivial));have n1_:=zd (hb);clear HB;clear HO287;have HO291:=n0_;have HB:=n1_;clear n0_ n1_
     (try clear hb)
     (try clear hkp)
     (try clear ho0)
     obtain⟨Ao18,co18,eo18⟩:=Kd.R_slice HO291.out
     (first|subst eo18|(injection eo18 with f1_ f2_ f3_;have f4_:=f1_.symm;have f5_:=f3_.symm;clear f1_ f2_ f3_;subst f4_;subst f5_))
     refine hK.out _ _ ⟨((HB.out.cell (World.block_lt_of_cell? w _ hw288_0)).trans hw288_0),((HB.out.cell (World.block_lt_of_cell? w _ hw288_1)).trans hw288_1),((HB.out.cell (World.block_lt_of_cell? w _ hw288_2)).trans hw288_2),((HB.out.cell (World.block_lt_of_cell? w _ hw288_3)).trans hw288_3),((HB.out.cell (World.block_lt_of_cell? w _ hw292_0)).trans hw292_0),((HB.out.cell (World.block_lt_of_cell? w _ hw292_1)).trans hw292_1),((HB.out.cell (World.block_lt_of_cell? w _ hw292_2)).trans hw292_2),((HB.out.cell (World.block_lt_of_cell? w _ hw292_3)).trans hw292_3)⟩ (fun hHeld=> ?_);clear hK K;refine norm_ (a' := ?_) ?_ ?_;rotate_left
     ·show Act.put _ (some 39) _=_;simp only[Act.put,za,zb,zc,i64_w,i32_w];rfl
     refine one_ (i:=15) (N:=some 46) #[t_,t_,t_,t_,t_,t_,t_,t_,t_,t_,t_,t_,t_,t_,t_,t_,f_] rfl rfl (one_of HT_.out (by kernel_rfl)) (by decide) (fun K hK=> ?_);refine goes_ Try.func52 (by kernel_rfl) rfl #[.slice Ao18 t289.length co18,.int .i64 8,.int .u64 (IntKind.u64.wrap ((rd_T70 l0 x4_1).f2))] (by rfl) rfl rfl (by(try simp only[List.map_toArray,List.map_cons,List.map_nil]);first|done|rfl|(simp only[List.length_drop,List.length_take];rfl)) ?_
     with_reducible refine(leatref1_Put.calls k1 (fun k_=>some k_=(.slice Ao18 t289.length co18:Value).ownBlock) (.slice Ao18 t289.length co18) t289 8 (IntKind.u64.wrap ((rd_T70 l0 x4_1).f2)) t293 w _ ?side1 ?side2 A9.out).mono ?_
     (case side1=>repeat (first|(with_reducible first|exact HB.out|apply zh|apply zi|apply zj)|exact HB.out))
     (case side2=>exact Kd.R_tight rfl HO291.out)
     rintro e w19 ⟨v294,rfl,ho0,hb,hkp⟩;refine⟨_,rfl,?_⟩;have n0_:=zd (zq (ok' :=fun k_=>True) ho0 (fun k_ hk_=>trivial));have n1_:=zd (hb);clear HB;clear HO291;have HO295:=n0_;have HB:=n1_;clear n0_ n1_
     (try clear hb)
     (try clear hkp)
     (try clear ho0)
     refine hK.out _ _ ⟨((HB.out.cell (World.block_lt_of_cell? w _ hw288_0)).trans hw288_0),((HB.out.cell (World.block_lt_of_cell? w _ hw288_1)).trans hw288_1),((HB.out.cell (World.block_lt_of_cell? w _ hw288_2)).trans hw288_2),((HB.out.cell (World.block_lt_of_cell? w _ hw288_3)).trans hw288_3),((HB.out.cell (World.block_lt_of_cell? w _ hw292_0)).trans hw292_0),((HB.out.cell (World.block_lt_of_cell? w _ hw292_1)).trans hw292_1),((HB.out.cell (World.block_lt_of_cell? w _ hw292_2)).trans hw292_2),((HB.out.cell (World.block_lt_of_cell? w _ hw292_3)).trans hw292_3)⟩ (fun hHeld=> ?_);clear hK K;refine norm_ (a' := ?_) ?_ ?_;rotate_left
     ·show Act.put _ (some 46) _=_;simp only[Act.put,za,zb,zc,i64_w,i32_w];rfl
     refine pure_ (i:=16) (N:=some 3) (v:= ?_) (a' := ?_) #[t_,t_,t_,t_,t_,t_,t_,t_,t_,t_,t_,t_,t_,t_,t_,t_,t_] rfl rfl (any_of HT_.out (by kernel_rfl)) (fun _ _ _ h=>h) (Or.inl ⟨by rfl,?_⟩) ?_ ?_;rotate_left
     ·intro w';go_simp
      with_reducible rfl
     rotate_left
     ·simp only[Act.put,za,zb,zc,i64_w,i32_w];rfl
     refine done_ (done_of HT_.out (by kernel_rfl)) ?_
     try go_wp2
     go_roundg k1
     case measure=>have:=HK1.out;omega
     case rel=>exact⟨(t293),(wrap64 (x4_1+1)),(by first|rfl|(simp;done)|(simp[*];done)),H',⟨by have:=HK1.out;omega⟩,⟨by(with_reducible repeat (first|apply ze|apply zf|apply zg));exact HO295.out⟩,⟨by repeat (first|(with_reducible first|exact HB.out|apply zh|apply zi|apply zj)|exact HB.out)⟩⟩
    ·rw[if_neg c5] at H;exact absurd H (by simp)
   ·rw[if_neg c4] at H;have c4b0:decide (x4_1<(l0.length:Int))=false:=decide_eq_false c4;clear c4;obtain rfl:=Option.some.inj H;go_wp2;go_ret;exact⟨_,by first|rfl|(simp[errW_none,errW_some]<;>rfl)|(simp[*,errW_none,errW_some]<;>rfl),by(with_reducible repeat (first|apply ze|apply zf|apply zg));exact HO_3.out,by repeat (first|(with_reducible first|exact HB.out|apply zh|apply zi|apply zj)|exact HB.out)⟩
end Go.Proofs.Ytjegeghigfmkoaa.X
namespace Go.Proofs.Ytjegeghigfmkoaa.X
open Go.RowKit Go.Proofs.YtjegeghigfmkoaaW.PrintWords Go.Proofs.YtjegeghigfmkoaaW.PrintLast Go.Proofs.YtjegeghigfmkoaaW.PrintMore
attribute [local go_sem] max2_int min2_int max_two min_two max_three min_three max_four min_four   -- for this text's walks alone
set_option linter.unusedVariables false
set_option linter.unusedSimpArgs false
def bytes_Equal.f (l0:List Int) (l1:List Int):Option (Bool):=some ((strOfNums l0).toList==(strOfNums l1).toList)
set_option maxHeartbeats 8000000 in
set_option maxRecDepth 100000 in
theorem bytes_Equal.calls (A0:Option Addr) (c0:Nat) (l0:List Int) (A1:Option Addr) (c1:Nat) (l1:List Int) (r:Bool) (w:World) (hr0:Kd.C (Kd.int .u8) w A0 l0.length l0) (hc0:l0.length<=c0) (hr1:Kd.C (Kd.int .u8) w A1 l1.length l1) (hc1:l1.length<=c1) (h:bytes_Equal.f l0 l1=some r):
  Calls Try.prog 49 #[.slice A0 l0.length c0,.slice A1 l1.length c1] w fun e w'=>e= .returned (.bool r)/\Drawn0 w w' :=by
 have HR0:=zd hr0;have HC0:=zd hc0;clear hr0 hc0;have HR1:=zd hr1;have HC1:=zd hc1;clear hr1 hc1;have H:(some ((strOfNums l0).toList==(strOfNums l1).toList))=some r:=h;clear h;obtain rfl:=Option.some.inj H;have hcv3:=Kd.C_string (P:=Try.prog) (A:=A0) (c:=c0) Try.underlying58 Try.underlying5 Try.underlying9 HR0.out;have hcv4:=Kd.C_string (P:=Try.prog) (A:=A1) (c:=c1) Try.underlying58 Try.underlying5 Try.underlying9 HR1.out;go_enter Try.func49,Try.ntmps49;go_wp2;go_ret;exact⟨by first|rfl|(simp;done)|(simp[*];done),by repeat (first|exact Drawn0.refl _|apply Drawn0.step)⟩
end Go.Proofs.Ytjegeghigfmkoaa.X
namespace Go.Proofs.Ytjegeghigfmkoaa.X
open Go.RowKit Go.Proofs.YtjegeghigfmkoaaW.PrintWords Go.Proofs.YtjegeghigfmkoaaW.PrintLast Go.Proofs.YtjegeghigfmkoaaW.PrintMore
attribute [local go_sem] max2_int min2_int max_two min_two max_three min_three max_four min_four   -- for this text's walks alone
set_option linter.unusedVariables false
set_option linter.unusedSimpArgs false
end Go.Proofs.Ytjegeghigfmkoaa.X
namespace Go.Proofs.Ytjegeghigfmkoaa.X
open Go.RowKit Go.Proofs.YtjegeghigfmkoaaW.PrintWords Go.Proofs.YtjegeghigfmkoaaW.PrintLast Go.Proofs.YtjegeghigfmkoaaW.PrintMore
attribute [local go_sem] max2_int min2_int max_two min_two max_three min_three max_four min_four   -- for this text's walks alone
set_option linter.unusedVariables false
set_option linter.unusedSimpArgs false
def leatref11_less.f (a0_0:Int) (a0_1:Int) (a0_2:Int) (a0_3:Int) (a1_0:Int) (a1_1:Int) (a1_2:Int) (a1_3:Int):Option (Bool):=if a0_0=a1_0 then(if a0_1=a1_1 then(if a0_2=a1_2 then(some (decide (a0_3<a1_3))) else(some (decide (a0_2<a1_2)))) else(some (decide (a0_1<a1_1)))) else(some (decide (a0_0<a1_0)))
set_option maxHeartbeats 8000000 in
set_option maxRecDepth 100000 in
theorem leatref11_less.calls (a0_0:Int) (a0_1:Int) (a0_2:Int) (a0_3:Int) (a1_0:Int) (a1_1:Int) (a1_2:Int) (a1_3:Int) (r:Bool) (w:World) (h:leatref11_less.f a0_0 a0_1 a0_2 a0_3 a1_0 a1_1 a1_2 a1_3=some r):
  Calls Try.prog 51 #[.agg #[.int .i64 a0_0,.int .i64 a0_1,.int .i64 a0_2,.int .i64 a0_3],.agg #[.int .i64 a1_0,.int .i64 a1_1,.int .i64 a1_2,.int .i64 a1_3]] w fun e w'=>e= .returned (.bool r)/\Below w.heap.size w w' :=by
 have hu70:=Try.underlying70;have HB:=zd (Below.refl w.heap.size w);have H:(if a0_0=a1_0 then(if a0_1=a1_1 then(if a0_2=a1_2 then(some (decide (a0_3<a1_3))) else(some (decide (a0_2<a1_2)))) else(some (decide (a0_1<a1_1)))) else(some (decide (a0_0<a1_0))))=some r:=h;clear h;by_cases c3:a0_0=a1_0
 ·rw[if_pos c3] at H;have c3b0:(a0_0==a1_0)=true:=beq_iff_eq.mpr c3;have c3b1:(a0_0 !=a1_0)=false:=bne_eq_false_iff_eq.mpr c3;clear c3;by_cases c4:a0_1=a1_1
  ·rw[if_pos c4] at H;have c4b0:(a0_1==a1_1)=true:=beq_iff_eq.mpr c4;have c4b1:(a0_1 !=a1_1)=false:=bne_eq_false_iff_eq.mpr c4;clear c4;by_cases c5:a0_2=a1_2
   ·rw[if_pos c5] at H;have c5b0:(a0_2==a1_2)=true:=beq_iff_eq.mpr c5;have c5b1:(a0_2 !=a1_2)=false:=bne_eq_false_iff_eq.mpr c5;clear c5;obtain rfl:=Option.some.inj H;go_enter Try.func51,Try.ntmps51;go_wp2_with (first|((with_reducible refine gate_dst (N:=2) rfl ?_);refine box_event ?hg (N:=2) ?hd (cs:= #[.int .i64 a0_0,.int .i64 a0_1,.int .i64 a0_2,.int .i64 a0_3]) (t:=70) ?hr ?_;(case hd=>rfl);(case hg=>rfl);(case hr=>first|(go_simp;done)|(go_simp;rfl));intro gb162 hg w6 hbox hb;have n0_:=zd (zs (by repeat (first|(with_reducible first|exact HB.out|apply zh|apply zi|apply zj)|exact HB.out)) hb);have n1_:=zd (hbox);have n2_:=zd ((by rw[hg];exact(below_size (by repeat (first|(with_reducible first|exact HB.out|apply zh|apply zi|apply zj)|exact HB.out))):w.heap.size<=gb162));have n3_:=zd ((by rw[hg];exact(below_size (by repeat (first|(with_reducible first|exact HB.out|apply zh|apply zi|apply zj)|exact HB.out))):w.heap.size<=gb162));clear HB;have HB:=n0_;have BK162:=n1_;have GW162:=n2_;have GE162:=n3_;clear n0_ n1_ n2_ n3_;clear hb hbox hg)|((with_reducible refine gate_dst (N:=3) rfl ?_);refine box_event ?hg (N:=3) ?hd (cs:= #[.int .i64 a1_0,.int .i64 a1_1,.int .i64 a1_2,.int .i64 a1_3]) (t:=70) ?hr ?_;(case hd=>rfl);(case hg=>rfl);(case hr=>first|(go_simp;done)|(go_simp;rfl));intro gb163 hg w7 hbox hb;have n0_:=zd (zp (g:=gb162) (o:= .cells #[.int .i64 a0_0,.int .i64 a0_1,.int .i64 a0_2,.int .i64 a0_3] 70 (0,0)) (by(with_reducible repeat (first|refine zk ?_ _|refine zl ?_|refine zm ?_ _));exact BK162.out) hb);have n1_:=zd (zs (by repeat (first|(with_reducible first|exact HB.out|apply zh|apply zi|apply zj|refine zn ?_ GE162.out)|exact HB.out)) hb);have n2_:=zd (hbox);have n3_:=zd ((by rw[hg];exact(below_size (by repeat (first|(with_reducible first|exact HB.out|apply zh|apply zi|apply zj|refine zn ?_ GE162.out)|exact HB.out))):w.heap.size<=gb163));have n4_:=zd ((by rw[hg];exact(below_size (by repeat (first|(with_reducible first|exact HB.out|apply zh|apply zi|apply zj|refine zn ?_ GE162.out)|exact HB.out))):w.heap.size<=gb163));have n5_:=zd ((by rw[hg];exact Nat.ne_of_lt (blk_lt (g:=gb162) (o:= .cells #[.int .i64 a0_0,.int .i64 a0_1,.int .i64 a0_2,.int .i64 a0_3] 70 (0,0)) (by(with_reducible repeat (first|refine zk ?_ _|refine zl ?_|refine zm ?_ _));exact BK162.out)):gb162≠gb163));have n6_:=zd ((by rw[hg];exact Nat.ne_of_gt (blk_lt (g:=gb162) (o:= .cells #[.int .i64 a0_0,.int .i64 a0_1,.int .i64 a0_2,.int .i64 a0_3] 70 (0,0)) (by(with_reducible repeat (first|refine zk ?_ _|refine zl ?_|refine zm ?_ _));exact BK162.out)):gb163≠gb162));clear BK162;clear HB;have BK162:=n0_;have HB:=n1_;have BK163:=n2_;have GW163:=n3_;have GE163:=n4_;have NB162_163:=n5_;have NB163_162:=n6_;clear n0_ n1_ n2_ n3_ n4_ n5_ n6_;clear hb hbox hg;have hnb8:=NB162_163.out;have hnc8:=NB163_162.out;have hcz9_0:w7.cell? ⟨gb162,0,none⟩=some (.int .i64 a0_0):=(zo BK162.out 0).trans rfl;have hcz9_1:w7.cell? ⟨gb162,1,none⟩=some (.int .i64 a0_1):=(zo BK162.out 1).trans rfl;have hcz9_2:w7.cell? ⟨gb162,2,none⟩=some (.int .i64 a0_2):=(zo BK162.out 2).trans rfl;have hcz9_3:w7.cell? ⟨gb162,3,none⟩=some (.int .i64 a0_3):=(zo BK162.out 3).trans rfl;have hfz9_0:=blk_frozen BK162.out 0;have hfz9_1:=blk_frozen BK162.out 1;have hfz9_2:=blk_frozen BK162.out 2;have hfz9_3:=blk_frozen BK162.out 3;have hcz10_0:w7.cell? ⟨gb163,0,none⟩=some (.int .i64 a1_0):=(zo BK163.out 0).trans rfl;have hcz10_1:w7.cell? ⟨gb163,1,none⟩=some (.int .i64 a1_1):=(zo BK163.out 1).trans rfl;have hcz10_2:w7.cell? ⟨gb163,2,none⟩=some (.int .i64 a1_2):=(zo BK163.out 2).trans rfl;have hcz10_3:w7.cell? ⟨gb163,3,none⟩=some (.int .i64 a1_3):=(zo BK163.out 3).trans rfl;have hfz10_0:=blk_frozen BK163.out 0;have hfz10_1:=blk_frozen BK163.out 1;have hfz10_2:=blk_frozen BK163.out 2;have hfz10_3:=blk_frozen BK163.out 3));go_ret;exact⟨by first|rfl|(simp[errW_none,errW_some]<;>rfl)|(simp[*,errW_none,errW_some]<;>rfl),by repeat (first|(with_reducible first|exact HB.out|apply zh|apply zi|apply zj|refine zn ?_ GE162.out|refine zn ?_ GE163.out)|exact HB.out)⟩
   ·rw[if_neg c5] at H;have c5b0:(a0_2==a1_2)=false:=beq_eq_false_iff_ne.mpr c5;have c5b1:(a0_2 !=a1_2)=true:=bne_iff_ne.mpr c5;obtain rfl:=Option.some.inj H;go_enter Try.func51,Try.ntmps51;go_wp2_with (first|((with_reducible refine gate_dst (N:=2) rfl ?_);refine box_event ?hg (N:=2) ?hd (cs:= #[.int .i64 a0_0,.int .i64 a0_1,.int .i64 a0_2,.int .i64 a0_3]) (t:=70) ?hr ?_;(case hd=>rfl);(case hg=>rfl);(case hr=>first|(go_simp;done)|(go_simp;rfl));intro gb162 hg w11 hbox hb;have n0_:=zd (zs (by repeat (first|(with_reducible first|exact HB.out|apply zh|apply zi|apply zj)|exact HB.out)) hb);have n1_:=zd (hbox);have n2_:=zd ((by rw[hg];exact(below_size (by repeat (first|(with_reducible first|exact HB.out|apply zh|apply zi|apply zj)|exact HB.out))):w.heap.size<=gb162));have n3_:=zd ((by rw[hg];exact(below_size (by repeat (first|(with_reducible first|exact HB.out|apply zh|apply zi|apply zj)|exact HB.out))):w.heap.size<=gb162));clear HB;have HB:=n0_;have BK162:=n1_;have GW162:=n2_;have GE162:=n3_;clear n0_ n1_ n2_ n3_;clear hb hbox hg)|((with_reducible refine gate_dst (N:=3) rfl ?_);refine box_event ?hg (N:=3) ?hd (cs:= #[.int .i64 a1_0,.int .i64 a1_1,.int .i64 a1_2,.int .i64 a1_3]) (t:=70) ?hr ?_;(case hd=>rfl);(case hg=>rfl);(case hr=>first|(go_simp;done)|(go_simp;rfl));intro gb163 hg w12 hbox hb;have n0_:=zd (zp (g:=gb162) (o:= .cells #[.int .i64 a0_0,.int .i64 a0_1,.int .i64 a0_2,.int .i64 a0_3] 70 (0,0)) (by(with_reducible repeat (first|refine zk ?_ _|refine zl ?_|refine zm ?_ _));exact BK162.out) hb);have n1_:=zd (zs (by repeat (first|(with_reducible first|exact HB.out|apply zh|apply zi|apply zj|refine zn ?_ GE162.out)|exact HB.out)) hb);have n2_:=zd (hbox);have n3_:=zd ((by rw[hg];exact(below_size (by repeat (first|(with_reducible first|exact HB.out|apply zh|apply zi|apply zj|refine zn ?_ GE162.out)|exact HB.out))):w.heap.size<=gb163));have n4_:=zd ((by rw[hg];exact(below_size (by repeat (first|(with_reducible first|exact HB.out|apply zh|apply zi|apply zj|refine zn ?_ GE162.out)|exact HB.out))):w.heap.size<=gb163));have n5_:=zd ((by rw[hg];exact Nat.ne_of_lt (blk_lt (g:=gb162) (o:= .cells #[.int .i64 a0_0,.int .i64 a0_1,.int .i64 a0_2,.int .i64 a0_3] 70 (0,0)) (by(with_reducible repeat (first|refine zk ?_ _|refine zl ?_|refine zm ?_ _));exact BK162.out)):gb162≠gb163));have n6_:=zd ((by rw[hg];exact Nat.ne_of_gt (blk_lt (g:=gb162) (o:= .cells #[.int .i64 a0_0,.int .i64 a0_1,.int .i64 a0_2,.int .i64 a0_3] 70 (0,0)) (by(with_reducible repeat (first|refine zk ?_ _|refine zl ?_|refine zm ?_ _));exact BK162.out)):gb163≠gb162));clear BK162;clear HB;have BK162:=n0_;have HB:=n1_;have BK163:=n2_;have GW163:=n3_;have GE163:=n4_;have NB162_163:=n5_;have NB163_162:=n6_;clear n0_ n1_ n2_ n3_ n4_ n5_ n6_;clear hb hbox hg;have hnb13:=NB162_163.out;have hnc13:=NB163_162.out;have hcz14_0:w12.cell? ⟨gb162,0,none⟩=some (.int .i64 a0_0):=(zo BK162.out 0).trans rfl;have hcz14_1:w12.cell? ⟨gb162,1,none⟩=some (.int .i64 a0_1):=(zo BK162.out 1).trans rfl;have hcz14_2:w12.cell? ⟨gb162,2,none⟩=some (.int .i64 a0_2):=(zo BK162.out 2).trans rfl;have hcz14_3:w12.cell? ⟨gb162,3,none⟩=some (.int .i64 a0_3):=(zo BK162.out 3).trans rfl;have hfz14_0:=blk_frozen BK162.out 0;have hfz14_1:=blk_frozen BK162.out 1;have hfz14_2:=blk_frozen BK162.out 2;have hfz14_3:=blk_frozen BK162.out 3;have hcz15_0:w12.cell? ⟨gb163,0,none⟩=some (.int .i64 a1_0):=(zo BK163.out 0).trans rfl;have hcz15_1:w12.cell? ⟨gb163,1,none⟩=some (.int .i64 a1_1):=(zo BK163.out 1).trans rfl;have hcz15_2:w12.cell? ⟨gb163,2,none⟩=some (.int .i64 a1_2):=(zo BK163.out 2).trans rfl;have hcz15_3:w12.cell? ⟨gb163,3,none⟩=some (.int .i64 a1_3):=(zo BK163.out 3).trans rfl;have hfz15_0:=blk_frozen BK163.out 0;have hfz15_1:=blk_frozen BK163.out 1;have hfz15_2:=blk_frozen BK163.out 2;have hfz15_3:=blk_frozen BK163.out 3));go_ret;exact⟨by first|rfl|(simp[errW_none,errW_some]<;>rfl)|(simp[*,errW_none,errW_some]<;>rfl),by repeat (first|(with_reducible first|exact HB.out|apply zh|apply zi|apply zj|refine zn ?_ GE162.out|refine zn ?_ GE163.out)|exact HB.out)⟩
  ·rw[if_neg c4] at H;have c4b0:(a0_1==a1_1)=false:=beq_eq_false_iff_ne.mpr c4;have c4b1:(a0_1 !=a1_1)=true:=bne_iff_ne.mpr c4;obtain rfl:=Option.some.inj H;go_enter Try.func51,Try.ntmps51;go_wp2_with (first|((with_reducible refine gate_dst (N:=2) rfl ?_);refine box_event ?hg (N:=2) ?hd (cs:= #[.int .i64 a0_0,.int .i64 a0_1,.int .i64 a0_2,.int .i64 a0_3]) (t:=70) ?hr ?_;(case hd=>rfl);(case hg=>rfl);(case hr=>first|(go_simp;done)|(go_simp;rfl));intro gb162 hg w16 hbox hb;have n0_:=zd (zs (by repeat (first|(with_reducible first|exact HB.out|apply zh|apply zi|apply zj)|exact HB.out)) hb);have n1_:=zd (hbox);have n2_:=zd ((by rw[hg];exact(below_size (by repeat (first|(with_reducible first|exact HB.out|apply zh|apply zi|apply zj)|exact HB.out))):w.heap.size<=gb162));have n3_:=zd ((by rw[hg];exact(below_size (by repeat (first|(with_reducible first|exact HB.out|apply zh|apply zi|apply zj)|exact HB.out))):w.heap.size<=gb162));clear HB;have HB:=n0_;have BK162:=n1_;have GW162:=n2_;have GE162:=n3_;clear n0_ n1_ n2_ n3_;clear hb hbox hg)|((with_reducible refine gate_dst (N:=3) rfl ?_);refine box_event ?hg (N:=3) ?hd (cs:= #[.int .i64 a1_0,.int .i64 a1_1,.int .i64 a1_2,.int .i64 a1_3]) (t:=70) ?hr ?_;(case hd=>rfl);(case hg=>rfl);(case hr=>first|(go_simp;done)|(go_simp;rfl));intro gb163 hg w17 hbox hb;have n0_:=zd (zp (g:=gb162) (o:= .cells #[.int .i64 a0_0,.int .i64 a0_1,.int .i64 a0_2,.int .i64 a0_3] 70 (0,0)) (by(with_reducible repeat (first|refine zk ?_ _|refine zl ?_|refine zm ?_ _));exact BK162.out) hb);have n1_:=zd (zs (by repeat (first|(with_reducible first|exact HB.out|apply zh|apply zi|apply zj|refine zn ?_ GE162.out)|exact HB.out)) hb);have n2_:=zd (hbox);have n3_:=zd ((by rw[hg];exact(below_size (by repeat (first|(with_reducible first|exact HB.out|apply zh|apply zi|apply zj|refine zn ?_ GE162.out)|exact HB.out))):w.heap.size<=gb163));have n4_:=zd ((by rw[hg];exact(below_size (by repeat (first|(with_reducible first|exact HB.out|apply zh|apply zi|apply zj|refine zn ?_ GE162.out)|exact HB.out))):w.heap.size<=gb163));have n5_:=zd ((by rw[hg];exact Nat.ne_of_lt (blk_lt (g:=gb162) (o:= .cells #[.int .i64 a0_0,.int .i64 a0_1,.int .i64 a0_2,.int .i64 a0_3] 70 (0,0)) (by(with_reducible repeat (first|refine zk ?_ _|refine zl ?_|refine zm ?_ _));exact BK162.out)):gb162≠gb163));have n6_:=zd ((by rw[hg];exact Nat.ne_of_gt (blk_lt (g:=gb162) (o:= .cells #[.int .i64 a0_0,.int .i64 a0_1,.int .i64 a0_2,.int .i64 a0_3] 70 (0,0)) (by(with_reducible repeat (first|refine zk ?_ _|refine zl ?_|refine zm ?_ _));exact BK162.out)):gb163≠gb162));clear BK162;clear HB;have BK162:=n0_;have HB:=n1_;have BK163:=n2_;have GW163:=n3_;have GE163:=n4_;have NB162_163:=n5_;have NB163_162:=n6_;clear n0_ n1_ n2_ n3_ n4_ n5_ n6_;clear hb hbox hg;have hnb18:=NB162_163.out;have hnc18:=NB163_162.out;have hcz19_0:w17.cell? ⟨gb162,0,none⟩=some (.int .i64 a0_0):=(zo BK162.out 0).trans rfl;have hcz19_1:w17.cell? ⟨gb162,1,none⟩=some (.int .i64 a0_1):=(zo BK162.out 1).trans rfl;have hcz19_2:w17.cell? ⟨gb162,2,none⟩=some (.int .i64 a0_2):=(zo BK162.out 2).trans rfl;have hcz19_3:w17.cell? ⟨gb162,3,none⟩=some (.int .i64 a0_3):=(zo BK162.out 3).trans rfl;have hfz19_0:=blk_frozen BK162.out 0;have hfz19_1:=blk_frozen BK162.out 1;have hfz19_2:=blk_frozen BK162.out 2;have hfz19_3:=blk_frozen BK162.out 3;have hcz20_0:w17.cell? ⟨gb163,0,none⟩=some (.int .i64 a1_0):=(zo BK163.out 0).trans rfl;have hcz20_1:w17.cell? ⟨gb163,1,none⟩=some (.int .i64 a1_1):=(zo BK163.out 1).trans rfl;have hcz20_2:w17.cell? ⟨gb163,2,none⟩=some (.int .i64 a1_2):=(zo BK163.out 2).trans rfl;have hcz20_3:w17.cell? ⟨gb163,3,none⟩=some (.int .i64 a1_3):=(zo BK163.out 3).trans rfl;have hfz20_0:=blk_frozen BK163.out 0;have hfz20_1:=blk_frozen BK163.out 1;have hfz20_2:=blk_frozen BK163.out 2;have hfz20_3:=blk_frozen BK163.out 3));go_ret;exact⟨by first|rfl|(simp[errW_none,errW_some]<;>rfl)|(simp[*,errW_none,errW_some]<;>rfl),by repeat (first|(with_reducible first|exact HB.out|apply zh|apply zi|apply zj|refine zn ?_ GE162.out|refine zn ?_ GE163.out)|exact HB.out)⟩
 ·rw[if_neg c3] at H;have c3b0:(a0_0==a1_0)=false:=beq_eq_false_iff_ne.mpr c3;have c3b1:(a0_0 !=a1_0)=true:=bne_iff_ne.mpr c3;obtain rfl:=Option.some.inj H;go_enter Try.func51,Try.ntmps51;go_wp2_with (first|((with_reducible refine gate_dst (N:=2) rfl ?_);refine box_event ?hg (N:=2) ?hd (cs:= #[.int .i64 a0_0,.int .i64 a0_1,.int .i64 a0_2,.int .i64 a0_3]) (t:=70) ?hr ?_;(case hd=>rfl);(case hg=>rfl);(case hr=>first|(go_simp;done)|(go_simp;rfl));intro gb162 hg w21 hbox hb;have n0_:=zd (zs (by repeat (first|(with_reducible first|exact HB.out|apply zh|apply zi|apply zj)|exact HB.out)) hb);have n1_:=zd (hbox);have n2_:=zd ((by rw[hg];exact(below_size (by repeat (first|(with_reducible first|exact HB.out|apply zh|apply zi|apply zj)|exact HB.out))):w.heap.size<=gb162));have n3_:=zd ((by rw[hg];exact(below_size (by repeat (first|(with_reducible first|exact HB.out|apply zh|apply zi|apply zj)|exact HB.out))):w.heap.size<=gb162));clear HB;have HB:=n0_;have BK162:=n1_;have GW162:=n2_;have GE162:=n3_;clear n0_ n1_ n2_ n3_;clear hb hbox hg)|((with_reducible refine gate_dst (N:=3) rfl ?_);refine box_event ?hg (N:=3) ?hd (cs:= #[.int .i64 a1_0,.int .i64 a1_1,.int .i64 a1_2,.int .i64 a1_3]) (t:=70) ?hr ?_;(case hd=>rfl);(case hg=>rfl);(case hr=>first|(go_simp;done)|(go_simp;rfl));intro gb163 hg w22 hbox hb;have n0_:=zd (zp (g:=gb162) (o:= .cells #[.int .i64 a0_0,.int .i64 a0_1,.int .i64 a0_2,.int .i64 a0_3] 70 (0,0)) (by(with_reducible repeat (first|refine zk ?_ _|refine zl ?_|refine zm ?_ _));exact BK162.out) hb);have n1_:=zd (zs (by repeat (first|(with_reducible first|exact HB.out|apply zh|apply zi|apply zj|refine zn ?_ GE162.out)|exact HB.out)) hb);have n2_:=zd (hbox);have n3_:=zd ((by rw[hg];exact(below_size (by repeat (first|(with_reducible first|exact HB.out|apply zh|apply zi|apply zj|refine zn ?_ GE162.out)|exact HB.out))):w.heap.size<=gb163));have n4_:=zd ((by rw[hg];exact(below_size (by repeat (first|(with_reducible first|exact HB.out|apply zh|apply zi|apply zj|refine zn ?_ GE162.out)|exact HB.out))):w.heap.size<=gb163));have n5_:=zd ((by rw[hg];exact Nat.ne_of_lt (blk_lt (g:=gb162) (o:= .cells #[.int .i64 a0_0,.int .i64 a0_1,.int .i64 a0_2,.int .i64 a0_3] 70 (0,0)) (by(with_reducible repeat (first|refine zk ?_ _|refine zl ?_|refine zm ?_ _));exact BK162.out)):gb162≠gb163));have n6_:=zd ((by rw[hg];exact Nat.ne_of_gt (blk_lt (g:=gb162) (o:= .cells #[.int .i64 a0_0,.int .i64 a0_1,.int .i64 a0_2,.int .i64 a0_3] 70 (0,0)) (by(with_reducible repeat (first|refine zk ?_ _|refine zl ?_|refine zm ?_ _));exact BK162.out)):gb163≠gb162));clear BK162;clear HB;have BK162:=n0_;have HB:=n1_;have BK163:=n2_;have GW163:=n3_;have GE163:=n4_;have NB162_163:=n5_;have NB163_162:=n6_;clear n0_ n1_ n2_ n3_ n4_ n5_ n6_;clear hb hbox hg;have hnb23:=NB162_163.out;have hnc23:=NB163_162.out;have hcz24_0:w22.cell? ⟨gb162,0,none⟩=some (.int .i64 a0_0):=(zo BK162.out 0).trans rfl;have hcz24_1:w22.cell? ⟨gb162,1,none⟩=some (.int .i64 a0_1):=(zo BK162.out 1).trans rfl;have hcz24_2:w22.cell? ⟨gb162,2,none⟩=some (.int .i64 a0_2):=(zo BK162.out 2).trans rfl;have hcz24_3:w22.cell? ⟨gb162,3,none⟩=some (.int .i64 a0_3):=(zo BK162.out 3).trans rfl;have hfz24_0:=blk_frozen BK162.out 0;have hfz24_1:=blk_frozen BK162.out 1;have hfz24_2:=blk_frozen BK162.out 2;have hfz24_3:=blk_frozen BK162.out 3;have hcz25_0:w22.cell? ⟨gb163,0,none⟩=some (.int .i64 a1_0):=(zo BK163.out 0).trans rfl;have hcz25_1:w22.cell? ⟨gb163,1,none⟩=some (.int .i64 a1_1):=(zo BK163.out 1).trans rfl;have hcz25_2:w22.cell? ⟨gb163,2,none⟩=some (.int .i64 a1_2):=(zo BK163.out 2).trans rfl;have hcz25_3:w22.cell? ⟨gb163,3,none⟩=some (.int .i64 a1_3):=(zo BK163.out 3).trans rfl;have hfz25_0:=blk_frozen BK163.out 0;have hfz25_1:=blk_frozen BK163.out 1;have hfz25_2:=blk_frozen BK163.out 2;have hfz25_3:=blk_frozen BK163.out 3));go_ret;exact⟨by first|rfl|(simp[errW_none,errW_some]<;>rfl)|(simp[*,errW_none,errW_some]<;>rfl),by repeat (first|(with_reducible first|exact HB.out|apply zh|apply zi|apply zj|refine zn ?_ GE162.out|refine zn ?_ GE163.out)|exact HB.out)⟩
end Go.Proofs.Ytjegeghigfmkoaa.X
namespace Go.Proofs.Ytjegeghigfmkoaa.X
open Go.RowKit Go.Proofs.YtjegeghigfmkoaaW.PrintWords Go.Proofs.YtjegeghigfmkoaaW.PrintLast Go.Proofs.YtjegeghigfmkoaaW.PrintMore
attribute [local go_sem] max2_int min2_int max_two min_two max_three min_three max_four min_four   -- for this text's walks alone
set_option linter.unusedVariables false
set_option linter.unusedSimpArgs false
def leatref10_Merge.j0:Nat ->Int ->Int ->Int ->Bool ->Option (Int)
 |0,_,_,_,_=>none
 |k+1,x1,x2,x7,x8=>if x8=true then(some (wrap64 (x1+x2))) else(if x7=3 then(some (mn x1 x2)) else(if x7=4 then(some (mx x1 x2)) else(if x7=5 then(some (Go.bits .xor .i64 x1 x2)) else(some 0))))
def leatref10_Merge.f (k:Nat) (a0:Int) (a1:Int) (a2:Int):Option (Int):=if a0=1 then(leatref10_Merge.j0 k a1 a2 a0 (a0==1)) else(leatref10_Merge.j0 k a1 a2 a0 (a0==2))
set_option maxHeartbeats 8000000 in
set_option maxRecDepth 100000 in
theorem leatref10_Merge.calls (k:Nat) (a0:Int) (a1:Int) (a2:Int) (r:Int) (w:World) (h:leatref10_Merge.f k a0 a1 a2=some r):
  Calls Try.prog 67 #[.int .i64 a0,.int .i64 a1,.int .i64 a2] w fun e w'=>e= .returned (.int .i64 r)/\Below w.heap.size w w' :=by
 have HB:=zd (Below.refl w.heap.size w);have H:(if a0=1 then(leatref10_Merge.j0 k a1 a2 a0 (a0==1)) else(leatref10_Merge.j0 k a1 a2 a0 (a0==2)))=some r:=h;clear h;have HC4:=zd H;clear H;go_enter Try.func67,Try.ntmps67;go_upto_if 8 with (fail)
 go_cut [8] (fun v8 wc=> ∃(kq:Nat) (x8_3:Bool),v8= .bool x8_3/\Aside0 (leatref10_Merge.j0 kq a1 a2 a0 x8_3=some r)/\Aside0 (kq<=k)/\Aside0 (Below w.heap.size w wc))
 case first=>
  have H:=HC4.out;clear HC4;by_cases c5:a0=1
  ·rw[if_pos c5] at H;have c5b0:(a0==1)=true:=beq_iff_eq.mpr c5;have c5b1:(a0 !=1)=false:=bne_eq_false_iff_eq.mpr c5;clear c5
   (first|rw[c5b0]|(simp only[i64_w,i32_w];rw[c5b0])|skip)
   have H' :=zd H;clear H;go_wp2;go_meet
   case rel=>exact⟨_,((a0==1)),(by first|rfl|(simp;done)|(simp[*];done)),H',⟨by first|omega|exact Nat.le_refl _⟩,⟨by repeat (first|(with_reducible first|exact HB.out|apply zh|apply zi|apply zj)|exact HB.out)⟩⟩
  ·rw[if_neg c5] at H;have c5b0:(a0==1)=false:=beq_eq_false_iff_ne.mpr c5;have c5b1:(a0 !=1)=true:=bne_iff_ne.mpr c5
   (first|rw[c5b0]|(simp only[i64_w,i32_w];rw[c5b0])|skip)
   have H' :=zd H;clear H;go_wp2;go_meet
   case rel=>exact⟨_,((a0==2)),(by first|rfl|(simp;done)|(simp[*];done)),H',⟨by first|omega|exact Nat.le_refl _⟩,⟨by repeat (first|(with_reducible first|exact HB.out|apply zh|apply zi|apply zj)|exact HB.out)⟩⟩
 case rest=>
  clear HC4
  try clear p2;try clear c5;try clear c5b0;try clear c5b1
  obtain⟨kq,x8_3,rfl,HA,HJ3,HB⟩:=hcut;cases kq with
  |zero=>exact absurd HA.out (by simp[leatref10_Merge.j0])
  | succ kj3=>
   have H:=HA.out;clear HA;simp only[leatref10_Merge.j0] at H;by_cases c6:x8_3=true
   ·subst c6;have H1:(some (wrap64 (a1+a2)))=some r:=by rw[if_pos rfl] at H;exact H
    clear H;have H:=H1;clear H1;obtain rfl:=Option.some.inj H;go_wp2;go_ret;exact⟨by first|rfl|(simp[errW_none,errW_some]<;>rfl)|(simp[*,errW_none,errW_some]<;>rfl),by repeat (first|(with_reducible first|exact HB.out|apply zh|apply zi|apply zj)|exact HB.out)⟩
   ·replace c6:=Bool.eq_false_iff.mpr c6;subst c6;have H1:(if a0=3 then(some (mn a1 a2)) else(if a0=4 then(some (mx a1 a2)) else(if a0=5 then(some (Go.bits .xor .i64 a1 a2)) else(some 0))))=some r:=by rw[if_neg (show ¬(false=true) by decide)] at H;exact H
    clear H;have H:=H1;clear H1;by_cases c7:a0=3
    ·rw[if_pos c7] at H;have c7b0:(a0==3)=true:=beq_iff_eq.mpr c7;have c7b1:(a0 !=3)=false:=bne_eq_false_iff_eq.mpr c7;clear c7;obtain⟨ji8,hji8⟩: ∃j_:Int,(mn a1 a2)=j_:=⟨_,rfl⟩
     replace H:(some ji8)=some r:=by first|(rw[hji8] at H;exact H)|(simp only[hji8] at H ⊢;exact H)
     have hji8_:(if a2<a1 then a2 else a1)=ji8:=hji8;obtain rfl:=Option.some.inj H;go_wp2;go_ret;exact⟨by first|rfl|(simp[errW_none,errW_some]<;>rfl)|(simp only[←hji8];first|rfl|(simp[errW_none,errW_some]<;>rfl))|(simp[*,errW_none,errW_some]<;>rfl),by repeat (first|(with_reducible first|exact HB.out|apply zh|apply zi|apply zj)|exact HB.out)⟩
    ·rw[if_neg c7] at H;have c7b0:(a0==3)=false:=beq_eq_false_iff_ne.mpr c7;have c7b1:(a0 !=3)=true:=bne_iff_ne.mpr c7;by_cases c9:a0=4
     ·rw[if_pos c9] at H;have c9b0:(a0==4)=true:=beq_iff_eq.mpr c9;have c9b1:(a0 !=4)=false:=bne_eq_false_iff_eq.mpr c9;clear c9;obtain⟨ji10,hji10⟩: ∃j_:Int,(mx a1 a2)=j_:=⟨_,rfl⟩
      replace H:(some ji10)=some r:=by first|(rw[hji10] at H;exact H)|(simp only[hji10] at H ⊢;exact H)
      have hji10_:(if a1<a2 then a2 else a1)=ji10:=hji10;obtain rfl:=Option.some.inj H;go_wp2;go_ret;exact⟨by first|rfl|(simp[errW_none,errW_some]<;>rfl)|(simp only[←hji10];first|rfl|(simp[errW_none,errW_some]<;>rfl))|(simp[*,errW_none,errW_some]<;>rfl),by repeat (first|(with_reducible first|exact HB.out|apply zh|apply zi|apply zj)|exact HB.out)⟩
     ·rw[if_neg c9] at H;have c9b0:(a0==4)=false:=beq_eq_false_iff_ne.mpr c9;have c9b1:(a0 !=4)=true:=bne_iff_ne.mpr c9;by_cases c11:a0=5
      ·rw[if_pos c11] at H;have c11b0:(a0==5)=true:=beq_iff_eq.mpr c11;have c11b1:(a0 !=5)=false:=bne_eq_false_iff_eq.mpr c11;clear c11;obtain rfl:=Option.some.inj H;go_wp2;go_ret;exact⟨by first|rfl|(simp[errW_none,errW_some]<;>rfl)|(simp[*,errW_none,errW_some]<;>rfl),by repeat (first|(with_reducible first|exact HB.out|apply zh|apply zi|apply zj)|exact HB.out)⟩
      ·rw[if_neg c11] at H;have c11b0:(a0==5)=false:=beq_eq_false_iff_ne.mpr c11;have c11b1:(a0 !=5)=true:=bne_iff_ne.mpr c11;obtain rfl:=Option.some.inj H;go_wp2;go_ret;exact⟨by first|rfl|(simp[errW_none,errW_some]<;>rfl)|(simp[*,errW_none,errW_some]<;>rfl),by repeat (first|(with_reducible first|exact HB.out|apply zh|apply zi|apply zj)|exact HB.out)⟩
end Go.Proofs.Ytjegeghigfmkoaa.X
namespace Go.Proofs.Ytjegeghigfmkoaa.X
open Go.RowKit Go.Proofs.YtjegeghigfmkoaaW.PrintWords Go.Proofs.YtjegeghigfmkoaaW.PrintLast Go.Proofs.YtjegeghigfmkoaaW.PrintMore
attribute [local go_sem] max2_int min2_int max_two min_two max_three min_three max_four min_four   -- for this text's walks alone
set_option linter.unusedVariables false
set_option linter.unusedSimpArgs false
def leatref10_Add.f (k:Nat) (a0:Int) (a1:Int) (a2:Int):Option (Int):=if a0=2 then(some (wrap64 (a1+1))) else((leatref10_Merge.f k a0 a1 a2).bind fun t174=>(some t174))
set_option maxHeartbeats 8000000 in
set_option maxRecDepth 100000 in
theorem leatref10_Add.calls (k:Nat) (a0:Int) (a1:Int) (a2:Int) (r:Int) (w:World) (h:leatref10_Add.f k a0 a1 a2=some r):
  Calls Try.prog 64 #[.int .i64 a0,.int .i64 a1,.int .i64 a2] w fun e w'=>e= .returned (.int .i64 r)/\Below w.heap.size w w' :=by
 have HB:=zd (Below.refl w.heap.size w);have H:(if a0=2 then(some (wrap64 (a1+1))) else((leatref10_Merge.f k a0 a1 a2).bind fun t174=>(some t174)))=some r:=h;clear h;by_cases c4:a0=2
 ·rw[if_pos c4] at H;have c4b0:(a0==2)=true:=beq_iff_eq.mpr c4;have c4b1:(a0 !=2)=false:=bne_eq_false_iff_eq.mpr c4;clear c4;obtain rfl:=Option.some.inj H;go_enter Try.func64,Try.ntmps64;go_wp2;go_ret;exact⟨by first|rfl|(simp[errW_none,errW_some]<;>rfl)|(simp[*,errW_none,errW_some]<;>rfl),by repeat (first|(with_reducible first|exact HB.out|apply zh|apply zi|apply zj)|exact HB.out)⟩
 ·rw[if_neg c4] at H;have c4b0:(a0==2)=false:=beq_eq_false_iff_ne.mpr c4;have c4b1:(a0 !=2)=true:=bne_iff_ne.mpr c4;replace H:=Option.bind_eq_some_iff.mp H;obtain⟨t174,A50,H⟩:=H;replace H:(some t174)=some r:=H;have A5:=zd A50;clear A50;obtain rfl:=Option.some.inj H;go_enter Try.func64,Try.ntmps64;go_wp2_with (first|((with_reducible refine gate_callee (f:=67) rfl ?_);refine goesL_ (some 14) rfl rfl Try.func67 (by kernel_rfl) rfl #[.int .i64 a0,.int .i64 a1,.int .i64 a2] rfl (by(try simp only[List.map_toArray,List.map_cons,List.map_nil]);first|done|rfl|(simp only[List.length_drop,List.length_take];rfl)) ?_;(with_reducible refine(leatref10_Merge.calls k a0 a1 a2 t174 _ A5.out).mono ?_);rintro e w6 ⟨rfl,hb⟩;refine⟨_,rfl,?_⟩;have n0_:=zd (zs (by repeat (first|(with_reducible first|exact HB.out|apply zh|apply zi|apply zj)|exact HB.out)) hb);clear HB;have HB:=n0_;clear n0_;(try clear hb);(try clear hb2);(try clear hk);(try clear hi)));go_ret;exact⟨by first|rfl|(simp[errW_none,errW_some]<;>rfl)|(simp[*,errW_none,errW_some]<;>rfl),by repeat (first|(with_reducible first|exact HB.out|apply zh|apply zi|apply zj)|exact HB.out)⟩
end Go.Proofs.Ytjegeghigfmkoaa.X
namespace Go.Proofs.Ytjegeghigfmkoaa.X
open Go.RowKit Go.Proofs.YtjegeghigfmkoaaW.PrintWords Go.Proofs.YtjegeghigfmkoaaW.PrintLast Go.Proofs.YtjegeghigfmkoaaW.PrintMore
attribute [local go_sem] max2_int min2_int max_two min_two max_three min_three max_four min_four   -- for this text's walks alone
set_option linter.unusedVariables false
set_option linter.unusedSimpArgs false
def leatref10_Zero.f (a0:Int):Option (Int):=if a0=3 then(some 9223372036854775807) else(if a0=4 then(some (-9223372036854775808)) else(some 0))
set_option maxHeartbeats 8000000 in
set_option maxRecDepth 100000 in
theorem leatref10_Zero.calls (a0:Int) (r:Int) (w:World) (h:leatref10_Zero.f a0=some r):
  Calls Try.prog 65 #[.int .i64 a0] w fun e w'=>e= .returned (.int .i64 r)/\Drawn0 w w' :=by
 have H:(if a0=3 then(some 9223372036854775807) else(if a0=4 then(some (-9223372036854775808)) else(some 0)))=some r:=h;clear h;by_cases c2:a0=3
 ·rw[if_pos c2] at H;have c2b0:(a0==3)=true:=beq_iff_eq.mpr c2;have c2b1:(a0 !=3)=false:=bne_eq_false_iff_eq.mpr c2;clear c2;obtain rfl:=Option.some.inj H;go_enter Try.func65,Try.ntmps65;go_wp2;go_ret;exact⟨by first|rfl|(simp;done)|(simp[*];done),by repeat (first|exact Drawn0.refl _|apply Drawn0.step)⟩
 ·rw[if_neg c2] at H;have c2b0:(a0==3)=false:=beq_eq_false_iff_ne.mpr c2;have c2b1:(a0 !=3)=true:=bne_iff_ne.mpr c2;by_cases c3:a0=4
  ·rw[if_pos c3] at H;have c3b0:(a0==4)=true:=beq_iff_eq.mpr c3;have c3b1:(a0 !=4)=false:=bne_eq_false_iff_eq.mpr c3;clear c3;obtain rfl:=Option.some.inj H;go_enter Try.func65,Try.ntmps65;go_wp2;go_ret;exact⟨by first|rfl|(simp;done)|(simp[*];done),by repeat (first|exact Drawn0.refl _|apply Drawn0.step)⟩
  ·rw[if_neg c3] at H;have c3b0:(a0==4)=false:=beq_eq_false_iff_ne.mpr c3;have c3b1:(a0 !=4)=true:=bne_iff_ne.mpr c3;obtain rfl:=Option.some.inj H;go_enter Try.func65,Try.ntmps65;go_wp2;go_ret;exact⟨by first|rfl|(simp;done)|(simp[*];done),by repeat (first|exact Drawn0.refl _|apply Drawn0.step)⟩
end Go.Proofs.Ytjegeghigfmkoaa.X
namespace Go.Proofs.Ytjegeghigfmkoaa.X
open Go.RowKit Go.Proofs.YtjegeghigfmkoaaW.PrintWords Go.Proofs.YtjegeghigfmkoaaW.PrintLast Go.Proofs.YtjegeghigfmkoaaW.PrintMore
attribute [local go_sem] max2_int min2_int max_two min_two max_three min_three max_four min_four   -- for this text's walks alone
set_option linter.unusedVariables false
set_option linter.unusedSimpArgs false
def leatref11_overlap.f (a0_0:Int) (a0_1:Int) (a1_0:Int) (a1_1:Int):Option (Bool):=if a0_0<a1_1 then(some (decide (a1_0<a0_1))) else(some false)
set_option maxHeartbeats 8000000 in
set_option maxRecDepth 100000 in
theorem leatref11_overlap.calls (a0_0:Int) (a0_1:Int) (a1_0:Int) (a1_1:Int) (r:Bool) (w:World) (h:leatref11_overlap.f a0_0 a0_1 a1_0 a1_1=some r):
  Calls Try.prog 80 #[.agg #[.int .i64 a0_0,.int .i64 a0_1],.agg #[.int .i64 a1_0,.int .i64 a1_1]] w fun e w'=>e= .returned (.bool r)/\Below w.heap.size w w' :=by
 have hu68:=Try.underlying68;have HB:=zd (Below.refl w.heap.size w);have H:(if a0_0<a1_1 then(some (decide (a1_0<a0_1))) else(some false))=some r:=h;clear h;by_cases c3:a0_0<a1_1
 ·rw[if_pos c3] at H;have c3b0:decide (a0_0<a1_1)=true:=decide_eq_true c3;clear c3;obtain rfl:=Option.some.inj H;go_enter Try.func80,Try.ntmps80;go_wp2_with (first|((with_reducible refine gate_dst (N:=2) rfl ?_);refine box_event ?hg (N:=2) ?hd (cs:= #[.int .i64 a0_0,.int .i64 a0_1]) (t:=68) ?hr ?_;(case hd=>rfl);(case hg=>rfl);(case hr=>first|(go_simp;done)|(go_simp;rfl));intro gb175 hg w4 hbox hb;have n0_:=zd (zs (by repeat (first|(with_reducible first|exact HB.out|apply zh|apply zi|apply zj)|exact HB.out)) hb);have n1_:=zd (hbox);have n2_:=zd ((by rw[hg];exact(below_size (by repeat (first|(with_reducible first|exact HB.out|apply zh|apply zi|apply zj)|exact HB.out))):w.heap.size<=gb175));have n3_:=zd ((by rw[hg];exact(below_size (by repeat (first|(with_reducible first|exact HB.out|apply zh|apply zi|apply zj)|exact HB.out))):w.heap.size<=gb175));clear HB;have HB:=n0_;have BK175:=n1_;have GW175:=n2_;have GE175:=n3_;clear n0_ n1_ n2_ n3_;clear hb hbox hg)|((with_reducible refine gate_dst (N:=3) rfl ?_);refine box_event ?hg (N:=3) ?hd (cs:= #[.int .i64 a1_0,.int .i64 a1_1]) (t:=68) ?hr ?_;(case hd=>rfl);(case hg=>rfl);(case hr=>first|(go_simp;done)|(go_simp;rfl));intro gb176 hg w5 hbox hb;have n0_:=zd (zp (g:=gb175) (o:= .cells #[.int .i64 a0_0,.int .i64 a0_1] 68 (0,0)) (by(with_reducible repeat (first|refine zk ?_ _|refine zl ?_|refine zm ?_ _));exact BK175.out) hb);have n1_:=zd (zs (by repeat (first|(with_reducible first|exact HB.out|apply zh|apply zi|apply zj|refine zn ?_ GE175.out)|exact HB.out)) hb);have n2_:=zd (hbox);have n3_:=zd ((by rw[hg];exact(below_size (by repeat (first|(with_reducible first|exact HB.out|apply zh|apply zi|apply zj|refine zn ?_ GE175.out)|exact HB.out))):w.heap.size<=gb176));have n4_:=zd ((by rw[hg];exact(below_size (by repeat (first|(with_reducible first|exact HB.out|apply zh|apply zi|apply zj|refine zn ?_ GE175.out)|exact HB.out))):w.heap.size<=gb176));have n5_:=zd ((by rw[hg];exact Nat.ne_of_lt (blk_lt (g:=gb175) (o:= .cells #[.int .i64 a0_0,.int .i64 a0_1] 68 (0,0)) (by(with_reducible repeat (first|refine zk ?_ _|refine zl ?_|refine zm ?_ _));exact BK175.out)):gb175≠gb176));have n6_:=zd ((by rw[hg];exact Nat.ne_of_gt (blk_lt (g:=gb175) (o:= .cells #[.int .i64 a0_0,.int .i64 a0_1] 68 (0,0)) (by(with_reducible repeat (first|refine zk ?_ _|refine zl ?_|refine zm ?_ _));exact BK175.out)):gb176≠gb175));clear BK175;clear HB;have BK175:=n0_;have HB:=n1_;have BK176:=n2_;have GW176:=n3_;have GE176:=n4_;have NB175_176:=n5_;have NB176_175:=n6_;clear n0_ n1_ n2_ n3_ n4_ n5_ n6_;clear hb hbox hg;have hnb6:=NB175_176.out;have hnc6:=NB176_175.out;have hcz7_0:w5.cell? ⟨gb175,0,none⟩=some (.int .i64 a0_0):=(zo BK175.out 0).trans rfl;have hcz7_1:w5.cell? ⟨gb175,1,none⟩=some (.int .i64 a0_1):=(zo BK175.out 1).trans rfl;have hfz7_0:=blk_frozen BK175.out 0;have hfz7_1:=blk_frozen BK175.out 1;have hcz8_0:w5.cell? ⟨gb176,0,none⟩=some (.int .i64 a1_0):=(zo BK176.out 0).trans rfl;have hcz8_1:w5.cell? ⟨gb176,1,none⟩=some (.int .i64 a1_1):=(zo BK176.out 1).trans rfl;have hfz8_0:=blk_frozen BK176.out 0;have hfz8_1:=blk_frozen BK176.out 1));go_ret;exact⟨by first|rfl|(simp[errW_none,errW_some]<;>rfl)|(simp[*,errW_none,errW_some]<;>rfl),by repeat (first|(with_reducible first|exact HB.out|apply zh|apply zi|apply zj|refine zn ?_ GE175.out|refine zn ?_ GE176.out)|exact HB.out)⟩
 ·rw[if_neg c3] at H;have c3b0:decide (a0_0<a1_1)=false:=decide_eq_false c3;clear c3;obtain rfl:=Option.some.inj H;go_enter Try.func80,Try.ntmps80;go_wp2_with (first|((with_reducible refine gate_dst (N:=2) rfl ?_);refine box_event ?hg (N:=2) ?hd (cs:= #[.int .i64 a0_0,.int .i64 a0_1]) (t:=68) ?hr ?_;(case hd=>rfl);(case hg=>rfl);(case hr=>first|(go_simp;done)|(go_simp;rfl));intro gb175 hg w9 hbox hb;have n0_:=zd (zs (by repeat (first|(with_reducible first|exact HB.out|apply zh|apply zi|apply zj)|exact HB.out)) hb);have n1_:=zd (hbox);have n2_:=zd ((by rw[hg];exact(below_size (by repeat (first|(with_reducible first|exact HB.out|apply zh|apply zi|apply zj)|exact HB.out))):w.heap.size<=gb175));have n3_:=zd ((by rw[hg];exact(below_size (by repeat (first|(with_reducible first|exact HB.out|apply zh|apply zi|apply zj)|exact HB.out))):w.heap.size<=gb175));clear HB;have HB:=n0_;have BK175:=n1_;have GW175:=n2_;have GE175:=n3_;clear n0_ n1_ n2_ n3_;clear hb hbox hg)|((with_reducible refine gate_dst (N:=3) rfl ?_);refine box_event ?hg (N:=3) ?hd (cs:= #[.int .i64 a1_0,.int .i64 a1_1]) (t:=68) ?hr ?_;(case hd=>rfl);(case hg=>rfl);(case hr=>first|(go_simp;done)|(go_simp;rfl));intro gb176 hg w10 hbox hb;have n0_:=zd (zp (g:=gb175) (o:= .cells #[.int .i64 a0_0,.int .i64 a0_1] 68 (0,0)) (by(with_reducible repeat (first|refine zk ?_ _|refine zl ?_|refine zm ?_ _));exact BK175.out) hb);have n1_:=zd (zs (by repeat (first|(with_reducible first|exact HB.out|apply zh|apply zi|apply zj|refine zn ?_ GE175.out)|exact HB.out)) hb);have n2_:=zd (hbox);have n3_:=zd ((by rw[hg];exact(below_size (by repeat (first|(with_reducible first|exact HB.out|apply zh|apply zi|apply zj|refine zn ?_ GE175.out)|exact HB.out))):w.heap.size<=gb176));have n4_:=zd ((by rw[hg];exact(below_size (by repeat (first|(with_reducible first|exact HB.out|apply zh|apply zi|apply zj|refine zn ?_ GE175.out)|exact HB.out))):w.heap.size<=gb176));have n5_:=zd ((by rw[hg];exact Nat.ne_of_lt (blk_lt (g:=gb175) (o:= .cells #[.int .i64 a0_0,.int .i64 a0_1] 68 (0,0)) (by(with_reducible repeat (first|refine zk ?_ _|refine zl ?_|refine zm ?_ _));exact BK175.out)):gb175≠gb176));have n6_:=zd ((by rw[hg];exact Nat.ne_of_gt (blk_lt (g:=gb175) (o:= .cells #[.int .i64 a0_0,.int .i64 a0_1] 68 (0,0)) (by(with_reducible repeat (first|refine zk ?_ _|refine zl ?_|refine zm ?_ _));exact BK175.out)):gb176≠gb175));clear BK175;clear HB;have BK175:=n0_;have HB:=n1_;have BK176:=n2_;have GW176:=n3_;have GE176:=n4_;have NB175_176:=n5_;have NB176_175:=n6_;clear n0_ n1_ n2_ n3_ n4_ n5_ n6_;clear hb hbox hg;have hnb11:=NB175_176.out;have hnc11:=NB176_175.out;have hcz12_0:w10.cell? ⟨gb175,0,none⟩=some (.int .i64 a0_0):=(zo BK175.out 0).trans rfl;have hcz12_1:w10.cell? ⟨gb175,1,none⟩=some (.int .i64 a0_1):=(zo BK175.out 1).trans rfl;have hfz12_0:=blk_frozen BK175.out 0;have hfz12_1:=blk_frozen BK175.out 1;have hcz13_0:w10.cell? ⟨gb176,0,none⟩=some (.int .i64 a1_0):=(zo BK176.out 0).trans rfl;have hcz13_1:w10.cell? ⟨gb176,1,none⟩=some (.int .i64 a1_1):=(zo BK176.out 1).trans rfl;have hfz13_0:=blk_frozen BK176.out 0;have hfz13_1:=blk_frozen BK176.out 1));go_ret;exact⟨by first|rfl|(simp[errW_none,errW_some]<;>rfl)|(simp[*,errW_none,errW_some]<;>rfl),by repeat (first|(with_reducible first|exact HB.out|apply zh|apply zi|apply zj|refine zn ?_ GE175.out|refine zn ?_ GE176.out)|exact HB.out)⟩
end Go.Proofs.Ytjegeghigfmkoaa.X
namespace Go.Proofs.Ytjegeghigfmkoaa.X
open Go.RowKit Go.Proofs.YtjegeghigfmkoaaW.PrintWords Go.Proofs.YtjegeghigfmkoaaW.PrintLast Go.Proofs.YtjegeghigfmkoaaW.PrintMore
attribute [local go_sem] max2_int min2_int max_two min_two max_three min_three max_four min_four   -- for this text's walks alone
set_option linter.unusedVariables false
set_option linter.unusedSimpArgs false
def leatref11_Whole.f:Option (Int×Int):=some ((-9223372036854775808),2199023255553)
set_option maxHeartbeats 8000000 in
set_option maxRecDepth 100000 in
theorem leatref11_Whole.calls (r1:Int) (r2:Int) (w:World) (h:leatref11_Whole.f=some (r1,r2)):
  Calls Try.prog 39 #[] w fun e w'=>e= .returned (.agg #[.int .i64 r1,.int .i64 r2])/\Below w.heap.size w w' :=by
 have hu68:=Try.underlying68;have HB:=zd (Below.refl w.heap.size w);have H:(some ((-9223372036854775808),2199023255553))=some (r1,r2):=h;clear h;simp only[Option.some.injEq,Prod.mk.injEq] at H;obtain⟨rfl,rfl⟩:=H;go_enter Try.func39,Try.ntmps39;go_wp2_with (first|((with_reducible refine gate_dst (N:=0) rfl ?_);refine box_event ?hg (N:=0) ?hd (cs:= #[.int .i64 0,.int .i64 0]) (t:=68) ?hr ?_;(case hd=>rfl);(case hg=>rfl);(case hr=>first|(go_simp;done)|(go_simp;rfl));intro gb226 hg w1 hbox hb;have n0_:=zd (zs (by repeat (first|(with_reducible first|exact HB.out|apply zh|apply zi|apply zj)|exact HB.out)) hb);have n1_:=zd (hbox);have n2_:=zd ((by rw[hg];exact(below_size (by repeat (first|(with_reducible first|exact HB.out|apply zh|apply zi|apply zj)|exact HB.out))):w.heap.size<=gb226));have n3_:=zd ((by rw[hg];exact(below_size (by repeat (first|(with_reducible first|exact HB.out|apply zh|apply zi|apply zj)|exact HB.out))):w.heap.size<=gb226));clear HB;have HB:=n0_;have BK226:=n1_;have GW226:=n2_;have GE226:=n3_;clear n0_ n1_ n2_ n3_;clear hb hbox hg;have hcz2_0:w1.cell? ⟨gb226,0,none⟩=some (.int .i64 0):=(zo BK226.out 0).trans rfl;have hcz2_1:w1.cell? ⟨gb226,1,none⟩=some (.int .i64 0):=(zo BK226.out 1).trans rfl;have hfz2_0:=blk_frozen BK226.out 0;have hfz2_1:=blk_frozen BK226.out 1));refine bodyPost_ret (results_cell_row rfl _ _ gb226 68 #[.int .i64 (-9223372036854775808),.int .i64 2199023255553] (0,0) _ rfl (by(with_reducible repeat (first|refine zk ?_ _|refine zl ?_|refine zm ?_ _));refine blk_put (cs:= #[.int .i64 (-9223372036854775808),.int .i64 0]) ?_ 1 _ rfl;(with_reducible repeat (first|refine zk ?_ _|refine zl ?_|refine zm ?_ _));refine blk_put (cs:= #[.int .i64 0,.int .i64 0]) ?_ 0 _ rfl;(with_reducible repeat (first|refine zk ?_ _|refine zl ?_|refine zm ?_ _));exact BK226.out) Try.underlying68 rfl (by kernel_rfl)) rfl ?_;exact⟨by first|rfl|(simp[errW_none,errW_some]<;>rfl)|(simp[*,errW_none,errW_some]<;>rfl),by repeat (first|(with_reducible first|exact HB.out|apply zh|apply zi|apply zj|refine zn ?_ GE226.out)|exact HB.out)⟩
end Go.Proofs.Ytjegeghigfmkoaa.X
namespace Go.Proofs.Ytjegeghigfmkoaa.X
open Go.RowKit Go.Proofs.YtjegeghigfmkoaaW.PrintWords Go.Proofs.YtjegeghigfmkoaaW.PrintLast Go.Proofs.YtjegeghigfmkoaaW.PrintMore
attribute [local go_sem] max2_int min2_int max_two min_two max_three min_three max_four min_four   -- for this text's walks alone
set_option linter.unusedVariables false
set_option linter.unusedSimpArgs false
def leathelp_Bytes.l0:Nat ->List Int ->List Int ->Int ->Option (Bool)
 |0,_,_,_=>none
 |k+1,x0,x1,x5=>if x5<(x0.length:Int) then(if 0<=x5 then(if x5<(x1.length:Int) then(if (rd x0 x5)=(rd x1 x5) then(leathelp_Bytes.l0 k x0 x1 (wrap64 (x5+1))) else(some false)) else(none)) else(none)) else(some true)
def leathelp_Bytes.f (k:Nat) (l0:List Int) (l1:List Int):Option (Bool):=if (l0.length:Int)=(l1.length:Int) then(leathelp_Bytes.l0 k l0 l1 0) else(some false)
set_option maxHeartbeats 8000000 in
set_option maxRecDepth 100000 in
theorem leathelp_Bytes.calls (k:Nat) (A0:Option Addr) (c0:Nat) (l0:List Int) (A1:Option Addr) (c1:Nat) (l1:List Int) (r:Bool) (w:World) (hr0:Kd.C (Kd.int .u8) w A0 l0.length l0) (hc0:l0.length<=c0) (hr1:Kd.C (Kd.int .u8) w A1 l1.length l1) (hc1:l1.length<=c1) (h:leathelp_Bytes.f k l0 l1=some r):
  Calls Try.prog 27 #[.slice A0 l0.length c0,.slice A1 l1.length c1] w fun e w'=>e= .returned (.bool r)/\Drawn0 w w' :=by
 have HR0:=zd hr0;have HC0:=zd hc0;clear hr0 hc0;have HR1:=zd hr1;have HC1:=zd hc1;clear hr1 hc1;have H:(if (l0.length:Int)=(l1.length:Int) then(leathelp_Bytes.l0 k l0 l1 0) else(some false))=some r:=h;clear h;by_cases c3:(l0.length:Int)=(l1.length:Int)
 ·rw [if_pos c3] at H;have c3b0:((l0.length:Int)==(l1.length:Int))=true:=beq_iff_eq.mpr c3;have c3b1:((l0.length:Int) !=(l1.length:Int))=false:=bne_eq_false_iff_eq.mpr c3;have c3b2:(l0.length==l1.length)=true:=by first|simpa using c3|(simp at c3 ⊢;omega)
  clear c3;have H' :=zd H;clear H;go_enter Try.func27,Try.ntmps27;go_wp2
  repeat (go_quiet (fail);try go_wp2)
  go_loopg [5] k (fun kq v5 w'=> ∃(x5_1:Int),v5= .int .i64 x5_1/\Aside0 (leathelp_Bytes.l0 kq l0 l1 x5_1=some r)/\Aside0 (kq<=k)/\Drawn0 w w')
  case atStart=>exact⟨(0),(by first|rfl|(simp;done)|(simp[*];done)),H',⟨Nat.le_refl _⟩,by repeat (first|exact Drawn0.refl _|apply Drawn0.step)⟩
  case round=>
   clear H'
   try clear c1;try clear c2;try clear p2;try clear c3;try clear c3b0;try clear c3b1;try clear c3b2
   obtain⟨x5_1,rfl,HA,HK1,⟨m1,rfl⟩⟩:=hrel;cases gk with
   |zero=>exact absurd HA.out (by simp[leathelp_Bytes.l0])
   | succ k1=>
    have H:=HA.out;clear HA;simp only[leathelp_Bytes.l0] at H;by_cases c4:x5_1<(l0.length:Int)
    ·rw [if_pos c4] at H;have c4b0:decide (x5_1<(l0.length:Int))=true:=decide_eq_true c4;clear c4;by_cases c5:0<=x5_1
     ·rw[if_pos c5] at H;have c5b0:decide (0<=x5_1)=true:=decide_eq_true c5;clear c5;by_cases c6:x5_1<(l1.length:Int)
      ·rw[if_pos c6] at H;have c6b0:decide (x5_1<(l1.length:Int))=true:=decide_eq_true c6;clear c6;by_cases c7:(rd l0 x5_1)=(rd l1 x5_1)
       ·rw[if_pos c7] at H;have c7b0:((rd l0 x5_1)==(rd l1 x5_1))=true:=beq_iff_eq.mpr c7;have c7b1:((rd l0 x5_1) !=(rd l1 x5_1))=false:=bne_eq_false_iff_eq.mpr c7;clear c7;have H' :=zd H;clear H;have p272:0<=(x5_1:Int):=of_decide_eq_true (by first|(with_reducible assumption)|assumption);have q272:x5_1<(l0.length:Int):=of_decide_eq_true (by first|(with_reducible assumption)|assumption);obtain⟨ad272,e272,hx272_0⟩:=Kd.at_int HR0.out x5_1 p272 q272;cases e272;replace p272:=eq_true p272;replace q272:=eq_true q272;have p273:0<=(x5_1:Int):=of_decide_eq_true (by first|(with_reducible assumption)|assumption);have q273:x5_1<(l1.length:Int):=of_decide_eq_true (by first|(with_reducible assumption)|assumption);obtain⟨ad273,e273,hx273_0⟩:=Kd.at_int HR1.out x5_1 p273 q273;cases e273;replace p273:=eq_true p273;replace q273:=eq_true q273;go_wp2
        repeat (go_quiet (fail);try go_wp2)
        go_roundg k1
        case measure=>have:=HK1.out;omega
        case rel=>exact⟨(wrap64 (x5_1+1)),(by first|rfl|(simp;done)|(simp[*];done)),H',⟨by have:=HK1.out;omega⟩,by repeat (first|exact Drawn0.refl _|apply Drawn0.step)⟩
       ·rw[if_neg c7] at H;have c7b0:((rd l0 x5_1)==(rd l1 x5_1))=false:=beq_eq_false_iff_ne.mpr c7;have c7b1:((rd l0 x5_1) !=(rd l1 x5_1))=true:=bne_iff_ne.mpr c7;obtain rfl:=Option.some.inj H;have p272:0<=(x5_1:Int):=of_decide_eq_true (by first|(with_reducible assumption)|assumption);have q272:x5_1<(l0.length:Int):=of_decide_eq_true (by first|(with_reducible assumption)|assumption);obtain⟨ad272,e272,hx272_0⟩:=Kd.at_int HR0.out x5_1 p272 q272;cases e272;replace p272:=eq_true p272;replace q272:=eq_true q272;have p273:0<=(x5_1:Int):=of_decide_eq_true (by first|(with_reducible assumption)|assumption);have q273:x5_1<(l1.length:Int):=of_decide_eq_true (by first|(with_reducible assumption)|assumption);obtain⟨ad273,e273,hx273_0⟩:=Kd.at_int HR1.out x5_1 p273 q273;cases e273;replace p273:=eq_true p273;replace q273:=eq_true q273;go_wp2
        repeat (go_quiet (fail);try go_wp2)
        go_ret;exact⟨by first|rfl|(simp;done)|(simp[*];done),by repeat (first|exact Drawn0.refl _|apply Drawn0.step)⟩
      ·rw[if_neg c6] at H;exact absurd H (by simp)
     ·rw[if_neg c5] at H;exact absurd H (by simp)
    ·rw[if_neg c4] at H;have c4b0:decide (x5_1<(l0.length:Int))=false:=decide_eq_false c4;clear c4;obtain rfl:=Option.some.inj H;go_wp2
     repeat (go_quiet (fail);try go_wp2)
     go_ret;exact⟨by first|rfl|(simp;done)|(simp[*];done),by repeat (first|exact Drawn0.refl _|apply Drawn0.step)⟩
 ·rw[if_neg c3] at H;have c3b0:((l0.length:Int)==(l1.length:Int))=false:=beq_eq_false_iff_ne.mpr c3;have c3b1:((l0.length:Int) !=(l1.length:Int))=true:=bne_iff_ne.mpr c3;have c3b2:(l0.length==l1.length)=false:=by first|simpa using c3|(simp at c3 ⊢;omega)
  obtain rfl:=Option.some.inj H;go_enter Try.func27,Try.ntmps27;go_wp2
  repeat (go_quiet (fail);try go_wp2)
  go_ret;exact⟨by first|rfl|(simp;done)|(simp[*];done),by repeat (first|exact Drawn0.refl _|apply Drawn0.step)⟩
end Go.Proofs.Ytjegeghigfmkoaa.X
namespace Go.Proofs.Ytjegeghigfmkoaa.X
open Go.RowKit Go.Proofs.YtjegeghigfmkoaaW.PrintWords Go.Proofs.YtjegeghigfmkoaaW.PrintLast Go.Proofs.YtjegeghigfmkoaaW.PrintMore
attribute [local go_sem] max2_int min2_int max_two min_two max_three min_three max_four min_four   -- for this text's walks alone
set_option linter.unusedVariables false
set_option linter.unusedSimpArgs false
end Go.Proofs.Ytjegeghigfmkoaa.X
