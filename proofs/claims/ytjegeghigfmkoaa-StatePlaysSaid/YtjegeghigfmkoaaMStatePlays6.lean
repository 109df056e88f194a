/- slices.swapRangeCmpFunc at elements of k cells: it exchanges two runs. No conditions beyond those typed: the runs lie in the row and do not overlap. -/
import Derived.Test.YtjegeghigfmkoaaProg
import Derived.Shelf.SlSortCmp.KitK
import Derived.Test.YtjegeghigfmkoaaMStatePlays5
import Derived.Deep.LoopGhost
import Derived.WalkKit
namespace Go.Proofs.Ytjegeghigfmkoaa.So
open Go.Shelf Go.RowKit Go.Lib Go.Sort Go.Proofs
set_option maxRecDepth 100000
set_option linter.unusedVariables false
set_option linter.unusedSimpArgs false
variable {α:Type} [Inhabited α]
structure Lay (P:Program) (k:Nat):Prop where
 mixed:P.follows .mixedOrders=true
 f67:P.funcs[98]? =some Try.f98
 f66:P.funcs[97]? =some Try.f97
 f65:P.funcs[96]? =some Try.f96
 f64:P.funcs[95]? =some Try.f95
 f62:P.funcs[93]? =some Try.f93
 f52:P.funcs[90]? =some Try.f90
 t0:P.underlying 0=some (TypeDesc.tuple #[])
 a0: ∀w,(isAgg 0).run P w= .ok false w
 z0: ∀w,(Go.sizeOf 0).run P w= .ok 1 w
 v0: ∀w,(zeroValue 0).run P w= .ok (Value.tuple #[]) w
 t3:P.underlying 3=some (TypeDesc.int IntKind.i64)
 a3: ∀w,(isAgg 3).run P w= .ok false w
 z3: ∀w,(Go.sizeOf 3).run P w= .ok 1 w
 v3: ∀w,(zeroValue 3).run P w= .ok (Value.int IntKind.i64 0) w
 t4:P.underlying 4=some (TypeDesc.bool)
 a4: ∀w,(isAgg 4).run P w= .ok false w
 z4: ∀w,(Go.sizeOf 4).run P w= .ok 1 w
 v4: ∀w,(zeroValue 4).run P w= .ok (Value.bool false) w
 t35:P.underlying 44=some (TypeDesc.slice 70)
 a35: ∀w,(isAgg 44).run P w= .ok false w
 z44: ∀w,(Go.sizeOf 44).run P w= .ok 1 w
 v35: ∀w,(zeroValue 44).run P w= .ok (Value.slice none 0 0) w
 t68:P.underlying 131=some (TypeDesc.func #[70,70] #[3] false)
 a68: ∀w,(isAgg 131).run P w= .ok false w
 z131: ∀w,(Go.sizeOf 131).run P w= .ok 1 w
 v68: ∀w,(zeroValue 131).run P w= .ok (Value.nilFunc) w
 t85:P.underlying 114=some (TypeDesc.int IntKind.u64)
 a85: ∀w,(isAgg 114).run P w= .ok false w
 z114: ∀w,(Go.sizeOf 114).run P w= .ok 1 w
 v85: ∀w,(zeroValue 114).run P w= .ok (Value.int IntKind.u64 0) w
 aE: ∀w,(isAgg 70).run P w= .ok true w
 zE: ∀w,(Go.sizeOf 70).run P w= .ok k w
set_option maxHeartbeats 4000000 in
set_option maxRecDepth 1000000 in
theorem swapRange {P:Program} {k:Nat} (L:Lay P k) (enc:α→List Value) (g:Nat) (cb:Array Value) (blk off cap a b n:Nat) (d0 d:Array α) (w0 w:World)
  (R:RowK enc k w0 blk off d0) (hs:d0.size=d.size) (S:SWK enc k w0 blk off d w) (hab:a+n≤b) (hb:b+n≤d.size) (hsz:d.size<4611686018427387904):
  Calls P 98 #[.slice (some ⟨blk,off,none⟩) d.size cap,.int .i64 a,.int .i64 b,.int .i64 n,.func (.func g) #[] cb] w fun e w'=>e= .returned (.tuple #[])∧SWK enc k w0 blk off (swapN a b n d) w' :=by
 have mixed:=L.mixed;have t0:=L.t0;have a0:=L.a0;have z0:=L.z0;have v0:=L.v0;have t3:=L.t3;have a3:=L.a3;have z3:=L.z3;have v3:=L.v3;have t4:=L.t4;have a4:=L.a4;have z4:=L.z4;have v4:=L.v4;have t35:=L.t35;have a35:=L.a35;have z44:=L.z44;have v35:=L.v35;have t68:=L.t68;have a68:=L.a68;have z131:=L.z131;have v68:=L.v68;have aE:=L.aE;have zE:=L.zE;have FG:=L.f67;have S0:Aside (SWK enc k w0 blk off d w):=S;clear S;go_enter FG,Try.ntmps98;go_wp2;go_loopg [10] n (fun kx s10 wr=> ∃(i:Nat),s10= .int .i64 i∧i≤n∧n-i≤kx∧Aside (SWK enc k w0 blk off (swapN a b i d) wr))
 case atStart=>exact⟨0,rfl,by omega,by omega,S0⟩
 case round=>
  clear S0;obtain⟨i,rfl,hin,hkx,S1⟩:=hrel;have hds:=swapN_size a b i d;have HDS:Aside _:=hds;clear hds;by_cases hlt:i<n
  ·have hltz:(i:Int)<(n:Int):=by omega
   go_wp2_with fail;have ea:((a:Int)+(i:Int)).toNat=a+i:=by omega
   have pa:(0:Int)≤(a:Int)+(i:Int):=by omega
   have ba:(a:Int)+(i:Int)<(d.size:Int):=by omega
   have ra:IntKind.i64.wrap ((a:Int)+(i:Int))=(a:Int)+(i:Int):=by rw[IntKind.wrap_i64];omega
   have ec:((b:Int)+(i:Int)).toNat=b+i:=by omega
   have pc:(0:Int)≤(b:Int)+(i:Int):=by omega
   have bc:(b:Int)+(i:Int)<(d.size:Int):=by omega
   have rc:IntKind.i64.wrap ((b:Int)+(i:Int))=(b:Int)+(i:Int):=by rw[IntKind.wrap_i64];omega
   generalize hdk:swapN a b i d=dk at S1 HDS;have HDK:Aside _:=hdk;clear hdk;have S2:Aside (SWK enc k w0 blk off (swp dk (a+i) (b+i)) ((wr.drew.setCells blk (off+(a+i)*k) (enc dk[b+i]!)).setCells blk (off+(b+i)*k) (enc dk[a+i]!))):=S1.out.swapped R (a+i) (b+i) (by rw[HDS.out];omega) (by rw[HDS.out];omega);have l44a:=S1.out.ld1 R (by rw[HDS.out];omega) P (a+i) (by rw[HDS.out];omega);have l44b:=S1.out.ld1 R (by rw[HDS.out];omega) P (b+i) (by rw[HDS.out];omega);have s44a:=S1.out.st1 R (by rw[HDS.out];omega) P (a+i) (by rw[HDS.out];omega) dk[b+i]!;have s44b:=S1.out.st2 R (by rw[HDS.out];omega) P (a+i) (b+i) (by rw[HDS.out];omega) (by rw[HDS.out];omega) dk[b+i]! dk[a+i]!;have n44a:(enc dk[a+i]!).length=k:=R.hk _;have n44b:(enc dk[b+i]!).length=k:=R.hk _;generalize enc dk[a+i]! =cI at S2 l44a s44b n44a;generalize enc dk[b+i]! =cJ at S2 l44b s44a s44b n44b;clear S1;go_wp2_with fail;go_big_region_o;clear l44a l44b s44a s44b;generalize (wr.drew.setCells blk (off+(a+i)*k) cJ).setCells blk (off+(b+i)*k) cI=w2 at S2 ⊢;go_wp2;go_roundg (n- (i+1))
   case measure=>omega
   case rel=>exact⟨i+1,by go_num,by omega,by omega,by rw[swapN,HDK.out];exact S2⟩
  ·obtain rfl:i=n:=by omega
   go_wp2;go_end0;exact⟨rfl,S1.out⟩
set_option maxHeartbeats 4000000 in
set_option maxRecDepth 1000000 in
theorem rotate {P:Program} {k:Nat} (L:Lay P k) (enc:α→List Value) (g:Nat) (cb:Array Value) (blk off cap a m b:Nat) (d0 d:Array α) (w0 w:World)
  (R:RowK enc k w0 blk off d0) (hs:d0.size=d.size) (S:SWK enc k w0 blk off d w) (ham:a<m) (hmb:m<b) (hb:b≤d.size) (hsz:d.size<4611686018427387904):
  Calls P 97 #[.slice (some ⟨blk,off,none⟩) d.size cap,.int .i64 a,.int .i64 m,.int .i64 b,.func (.func g) #[] cb] w fun e w'=>e= .returned (.tuple #[])∧SWK enc k w0 blk off (rotGo m (b-a) (m-a) (b-m) d) w' :=by
 have mixed:=L.mixed;have t0:=L.t0;have a0:=L.a0;have z0:=L.z0;have v0:=L.v0;have t3:=L.t3;have a3:=L.a3;have z3:=L.z3;have v3:=L.v3;have t4:=L.t4;have a4:=L.a4;have z4:=L.z4;have v4:=L.v4;have t35:=L.t35;have a35:=L.a35;have z44:=L.z44;have v35:=L.v35;have t68:=L.t68;have a68:=L.a68;have z131:=L.z131;have v68:=L.v68;have FG:=L.f66;have e67: ∀args w,(callFunc 98 args).run P w= .ok (.enter 98 args) w:=enters_of L.f67 (by kernel_rfl) rfl;have S0:Aside (SWK enc k w0 blk off d w):=S;clear S;have c1:(m:Int)- (a:Int)=((m-a:Nat):Int):=by omega
 have c2:(b:Int)- (m:Int)=((b-m:Nat):Int):=by omega
 have hSR:=fun (x y n:Nat) (dk:Array α) (w1:World) (h1:d0.size=dk.size) (h2:SWK enc k w0 blk off dk w1) (h3:x+n≤y) (h4:y+n≤dk.size) (h5:dk.size<4611686018427387904)=>swapRange L enc g cb blk off cap x y n d0 dk w0 w1 R h1 h2 h3 h4 h5
 have HSR:Aside _:=hSR;clear hSR;go_enter FG,Try.ntmps97;go_wp2;go_loopg [10,11] (b-a) (fun kx s10 s11 wr=> ∃(i j f:Nat) (dk:Array α),s10= .int .i64 i∧s11= .int .i64 j∧0<i∧0<j∧i≤m-a∧j≤b-m∧i+j≤f∧f≤kx∧dk.size=d.size∧Aside (SWK enc k w0 blk off dk wr)∧Aside (rotGo m f i j dk=rotGo m (b-a) (m-a) (b-m) d))
 case atStart=>exact⟨m-a,b-m,b-a,d,by first|rfl|go_num|(congr 1;omega),by first|rfl|go_num|(congr 1;omega),by omega,by omega,by omega,by omega,by omega,by omega,rfl,S0,rfl⟩
 case round=>
  clear S0;obtain⟨i,j,f,dk,rfl,rfl,hi,hj,him,hjb,hf,hfk,hds,S1,HE⟩:=hrel;obtain⟨f,rfl⟩: ∃f',f=f'+1:=⟨f-1,by omega⟩
  have hmi:(m:Int)- (i:Int)=((m-i:Nat):Int):=by omega
  by_cases he:i=j
  ·subst he;have HF:Aside (rotGo m (f+1) i i dk=swapN (m-i) m i dk):=by show _=_;rw[rotGo,if_pos rfl]
   have hc:=HSR.out (m-i) m i dk wr (by omega) S1.out (by omega) (by omega) (by omega);rw[hds] at hc;go_wp2_with (go_at_call 98;refine hc.mono ?_;rintro e w1 ⟨rfl,S2⟩);go_end0;exact⟨rfl,by rw[←HE.out,HF.out];exact S2⟩
  ·have hnz: ¬((i:Int)=(j:Int)):=by omega
   by_cases hgt:j<i
   ·have hgz:(j:Int)<(i:Int):=by omega
    have HF:Aside (rotGo m (f+1) i j dk=rotGo m f (i-j) j (swapN (m-i) m j dk)):=by show _=_;rw[rotGo,if_neg he,if_pos hgt]
    have hc:=HSR.out (m-i) m j dk wr (by omega) S1.out (by omega) (by omega) (by omega);rw[hds] at hc;go_wp2_with (go_at_call 98;refine hc.mono ?_;rintro e w1 ⟨rfl,S2⟩);have S3:Aside _:=S2;clear S2 S1 hc;go_wp2;go_roundg f
    case measure=>omega
    case rel=>exact⟨i-j,j,f,swapN (m-i) m j dk,by first|rfl|go_num|(congr 1;omega),rfl,by omega,by omega,by omega,by omega,by omega,Nat.le_refl _,by rw[swapN_size];exact hds,S3,by show _=_;rw[←HE.out,HF.out]⟩
   ·have hgz: ¬(j:Int)<(i:Int):=by omega
    have hmj:(m:Int)+(j:Int)- (i:Int)=((m+j-i:Nat):Int):=by omega
    have HF:Aside (rotGo m (f+1) i j dk=rotGo m f i (j-i) (swapN (m-i) (m+j-i) i dk)):=by show _=_;rw[rotGo,if_neg he,if_neg hgt]
    have hc:=HSR.out (m-i) (m+j-i) i dk wr (by omega) S1.out (by omega) (by omega) (by omega);rw[hds] at hc;go_wp2_with (go_at_call 98;refine hc.mono ?_;rintro e w1 ⟨rfl,S2⟩);have S3:Aside _:=S2;clear S2 S1 hc;go_wp2;go_roundg f
    case measure=>omega
    case rel=>exact⟨i,j-i,f,swapN (m-i) (m+j-i) i dk,rfl,by first|rfl|go_num|(congr 1;omega),by omega,by omega,by omega,by omega,by omega,Nat.le_refl _,by rw[swapN_size];exact hds,S3,by show _=_;rw[←HE.out,HF.out]⟩
end Go.Proofs.Ytjegeghigfmkoaa.So
namespace Go.Proofs.Ytjegeghigfmkoaa.So
open Go.Shelf Go.RowKit Go.Lib Go.Sort Go.Proofs
set_option maxRecDepth 100000
set_option linter.unusedVariables false
set_option linter.unusedSimpArgs false
variable {α:Type} [Inhabited α]
theorem keep_lt {lt:α→α→Bool} (hO:SWO lt) {d:Array α} {a b t h:Nat} {x:α} (hs:SortedIn lt a b d) (h1:a≤t) (h2:t≤h) (h3:h<b) (hx:lt d[h]! x=true):lt d[t]! x=true:=by
 cases hc:lt d[t]! x with
 |true=>rfl
 |false=>have:=hO.ntrans _ _ _ (SortedIn.le hO hs h1 h2 h3) hc;rw[this] at hx;cases hx
theorem keep_ge {lt:α→α→Bool} (hO:SWO lt) {d:Array α} {a b t h:Nat} {x:α} (hs:SortedIn lt a b d) (h1:a≤h) (h2:h≤t) (h3:t<b) (hx:lt d[h]! x=false):lt d[t]! x=false:=hO.ntrans _ _ _ (SortedIn.le hO hs h1 h2 h3) hx
theorem keep_up {lt:α→α→Bool} (hO:SWO lt) {d:Array α} {a b t h:Nat} {x:α} (hs:SortedIn lt a b d) (h1:a≤t) (h2:t≤h) (h3:h<b) (hx:lt x d[h]! =false):lt x d[t]! =false:=hO.ntrans _ _ _ hx (SortedIn.le hO hs h1 h2 h3)
theorem keep_dn {lt:α→α→Bool} (hO:SWO lt) {d:Array α} {a b t h:Nat} {x:α} (hs:SortedIn lt a b d) (h1:a≤h) (h2:h≤t) (h3:t<b) (hx:lt x d[h]! =true):lt x d[t]! =true:=by
 cases hc:lt x d[t]! with
 |true=>rfl
 |false=>have:=hO.ntrans _ _ _ hc (SortedIn.le hO hs h1 h2 h3);rw[this] at hx;cases hx
set_option maxHeartbeats 40000000 in
set_option maxRecDepth 1000000 in
theorem symMerge {P:Program} {k:Nat} (L:Lay P k) (enc:α→List Value) (cf:α→α→Int) (g:Nat) (cb:Array Value) (hO:SWO (ltOf cf)) (blk off cap:Nat) (d0:Array α) (w0:World)
  (eg: ∀args w,(callFunc g args).run P w= .ok (.enter g args) w) (hcmp:CmpLays P g cb enc k cf blk off d0.size w0) (R:RowK enc k w0 blk off d0):
  ∀(N a m b:Nat) (d:Array α) (w:World),b-a<N→d0.size=d.size→SWK enc k w0 blk off d w→a<m→m<b→b≤d.size→d.size<2305843009213693952→SortedIn (ltOf cf) a m d→SortedIn (ltOf cf) m b d→
  Calls P 96 #[.slice (some ⟨blk,off,none⟩) d.size cap,.int .i64 a,.int .i64 m,.int .i64 b,.func (.func g) #[] cb] w fun e w'=>e= .returned (.tuple #[])∧ ∃d',PermIn a b d d'∧SortedIn (ltOf cf) a b d'∧SWK enc k w0 blk off d' w' :=by
 have mixed:=L.mixed;have t0:=L.t0;have a0:=L.a0;have z0:=L.z0;have v0:=L.v0;have t3:=L.t3;have a3:=L.a3;have z3:=L.z3;have v3:=L.v3;have t4:=L.t4;have a4:=L.a4;have z4:=L.z4;have v4:=L.v4;have t35:=L.t35;have a35:=L.a35;have z44:=L.z44;have v35:=L.v35;have t68:=L.t68;have a68:=L.a68;have z131:=L.z131;have v68:=L.v68;have t85:=L.t85;have a85:=L.a85;have z114:=L.z114;have v85:=L.v85;have aE:=L.aE;have zE:=L.zE;have u3:=run_underlying L.t3;have u4:=run_underlying L.t4;have u35:=run_underlying L.t35;have u85:=run_underlying L.t85;have FG:=L.f65;have e66: ∀args w,(callFunc 97 args).run P w= .ok (.enter 97 args) w:=enters_of L.f66 (by kernel_rfl) rfl;have e65: ∀args w,(callFunc 96 args).run P w= .ok (.enter 96 args) w:=enters_of L.f65 (by kernel_rfl) rfl;have HC:Aside _:=hcmp;clear hcmp;have OO:Aside (SWO (ltOf cf)):=hO;clear hO;have hrot:=fun (x y z:Nat) (dk:Array α) (w1:World) (h1:d0.size=dk.size) (h2:SWK enc k w0 blk off dk w1) (h3:x<y) (h4:y<z) (h5:z≤dk.size) (h6:dk.size<4611686018427387904)=>rotate L enc g cb blk off cap x y z d0 dk w0 w1 R h1 h2 h3 h4 h5 h6
 have HROT:Aside _:=hrot;clear hrot;intro N
 induction N with
 |zero=>intro a m b d w h;exact absurd h (by omega)
 | succ N ih =>
  intro a m b d w hN hs S ham hmb hb hsz SA SB;have IH:Aside _:=ih;clear ih;have S0:Aside (SWK enc k w0 blk off d w):=S;have A1:Aside (SortedIn (ltOf cf) a m d):=SA;have A2:Aside (SortedIn (ltOf cf) m b d):=SB;clear S SA SB;by_cases hm1:m=a+1
  ·have zm:(m:Int)- (a:Int)=1:=by omega
   have HM:Aside (m=a+1):=hm1;clear hm1;go_enter FG,Try.ntmps96;go_wp2;go_loopg [10,11] (b-m) (fun kx s10 s11 wr=> ∃i j:Nat,s10= .int .i64 i∧s11= .int .i64 j∧m≤i∧i≤j∧j≤b∧j-i≤kx∧Aside (SWK enc k w0 blk off d wr)∧Aside ((∀t,m≤t→t<i→(ltOf cf) d[t]! d[a]! =true)∧(∀t,j≤t→t<b→(ltOf cf) d[t]! d[a]! =false)))
   case atStart=>exact⟨m,b,rfl,rfl,Nat.le_refl _,by omega,Nat.le_refl _,by omega,S0,⟨fun t h h'=>absurd h' (by omega),fun t h h'=>absurd h' (by omega)⟩⟩
   case round=>
    clear S0;obtain⟨i,j,rfl,rfl,hmi,hij,hjb,hkx,S1,I⟩:=hrel;by_cases hlt:i<j
    ·have hltz:(i:Int)<(j:Int):=by omega
     obtain⟨h,hh⟩: ∃h:Nat,h=(i+j)/ 2:=⟨_,rfl⟩
     have zh:((i:Int)+(j:Int))/ 2=(h:Int):=by omega
     have hh1:i≤h:=by omega
     have hh2:h<j:=by omega
     clear hh;have ph:(h:Int)<(d.size:Int):=by omega
     have pa:(a:Int)<(d.size:Int):=by omega
     go_wp2_with fail;obtain⟨vx,hvx⟩: ∃v,v=d[h]! :=⟨_,rfl⟩
     obtain⟨vy,hvy⟩: ∃v,v=d[a]! :=⟨_,rfl⟩
     have lda:=S1.out.ld R (by omega) P (h) (by omega);have ldb:=S1.out.ld R (by omega) P (a) (by omega);rw[←hvx] at lda;rw[←hvy] at ldb;have hcc:=S1.out.cmp HC.out (by omega) vx vy;have XV:Aside (vx=d[h]! ∧vy=d[a]!):=⟨hvx,hvy⟩
     clear hvx hvy;by_cases hlv:cf vx vy<0
     ·have hd:decide (cf vx vy<0)=true:=decide_eq_true hlv;go_wp2_with fail;go_quiet_grown (first|(go_at_fn g;refine Calls.grown_of (hcc _ _)));have S2:Aside (SWK enc k w0 blk off d (grow (wr.drewN nq) osq)):=S1.out.grown nq osq;clear lda ldb hcc S1;generalize grow (wr.drewN nq) osq=w2 at S2 ⊢;clear nq osq;go_wp2;go_roundg (j- (h+1))
      case measure=>omega
      case rel=>exact⟨h+1,j,by first|rfl|go_num|(congr 1;omega),rfl,by omega,by omega,hjb,Nat.le_refl _,S2,⟨fun t h1 h2=>keep_lt OO.out A2.out h1 (show t≤h by omega) (by omega) (by rw[←XV.out.1,←XV.out.2];exact hd),I.out.2⟩⟩
     ·have hd:decide (cf vx vy<0)=false:=decide_eq_false hlv;go_wp2_with fail;go_quiet_grown (first|(go_at_fn g;refine Calls.grown_of (hcc _ _)));have S2:Aside (SWK enc k w0 blk off d (grow (wr.drewN nq) osq)):=S1.out.grown nq osq;clear lda ldb hcc S1;generalize grow (wr.drewN nq) osq=w2 at S2 ⊢;clear nq osq;go_wp2;go_roundg (h-i)
      case measure=>omega
      case rel=>exact⟨i,h,rfl,by first|rfl|go_num|(congr 1;omega),hmi,by omega,by omega,Nat.le_refl _,S2,⟨I.out.1,fun t h1 h2=>keep_ge OO.out A2.out (by omega) h1 h2 (by rw[←XV.out.1,←XV.out.2];exact hd)⟩⟩
    ·obtain rfl:i=j:=by omega
     have hltz: ¬(i:Int)<(i:Int):=by omega
     have zi:(i:Int)-1=((i-1:Nat):Int):=by omega
     have HI:Aside (a+1≤i):=by have:=HM.out;show _≤_;omega
     go_wp2;go_loopg [13] (i-1-a) (fun kx s13 wr=> ∃kk:Nat,s13= .int .i64 kk∧a≤kk∧kk≤i-1∧i-1-kk≤kx∧Aside (SWK enc k w0 blk off (shL a (kk-a) d) wr))
     case atStart=>exact⟨a,rfl,Nat.le_refl _,by have:=HI.out;omega,Nat.le_refl _,by rw[Nat.sub_self];exact S1⟩
     case round=>
      clear S1;obtain⟨kk,rfl,hak,hki,hkx2,S1⟩:=hrel;by_cases hlt2:kk<i-1
      ·have hltz2:(kk:Int)<(i:Int)-1:=by omega
       have hltz3:(kk:Int)<((i-1:Nat):Int):=by omega
       have pk0:((kk:Int)+1).toNat=kk+1:=by omega
       have pk1:(0:Int)≤(kk:Int)+1:=by omega
       have pk2:(kk:Int)+1<(d.size:Int):=by omega
       have pk3:(kk:Int)<(d.size:Int):=by omega
       have pk4:IntKind.i64.wrap ((kk:Int)+1)=(kk:Int)+1:=by rw[IntKind.wrap_i64];omega
       have hds:=shL_size a (kk-a) d;have HS:Aside (shL a (kk+1-a) d=swp (shL a (kk-a) d) kk (kk+1)):=by
        show _=_;rw[show kk+1-a=(kk-a)+1 by omega,shL,show a+(kk-a)=kk by omega]
       generalize shL a (kk-a) d=dk at S1 hds HS;go_wp2_with fail;have S2:Aside (SWK enc k w0 blk off (swp dk (kk) (kk+1)) ((wr.drew.setCells blk (off+(kk)*k) (enc dk[kk+1]!)).setCells blk (off+(kk+1)*k) (enc dk[kk]!))):=S1.out.swapped R (kk) (kk+1) (by omega) (by omega);have sl1:=S1.out.ld1 R (by omega) P (kk) (by omega);have sl2:=S1.out.ld1 R (by omega) P (kk+1) (by omega);have ss1:=S1.out.st1 R (by omega) P (kk) (by omega) dk[kk+1]!;have ss2:=S1.out.st2 R (by omega) P (kk) (kk+1) (by omega) (by omega) dk[kk+1]! dk[kk]!;have sn1:(enc dk[kk]!).length=k:=R.hk _;have sn2:(enc dk[kk+1]!).length=k:=R.hk _;generalize enc dk[kk]! =cI at S2 sl1 ss2 sn1;generalize enc dk[kk+1]! =cJ at S2 sl2 ss1 ss2 sn2;clear S1;go_wp2_with fail;go_big_region_o;clear sl1 sl2 ss1 ss2;generalize (wr.drew.setCells blk (off+(kk)*k) cJ).setCells blk (off+(kk+1)*k) cI=w2 at S2 ⊢;go_wp2;go_roundg (i-1- (kk+1))
       case measure=>omega
       case rel=>exact⟨kk+1,by first|rfl|go_num|(congr 1;omega),by omega,by omega,Nat.le_refl _,by rw[HS.out];exact S2⟩
      ·obtain rfl:kk=i-1:=by omega
       have hltz2: ¬((i-1:Nat):Int)<(i:Int)-1:=by omega
       go_wp2
       first|go_end0|(rw[Exit.noGoto_ret];go_end0)|(refine bodyPost_ret (v:= .tuple #[]) (by simp[results,Try.results96,go_sem]) rfl ?_)
       have hi1:=HI.out;have hm1:=HM.out;subst hm1;obtain⟨q1,q2⟩:=ins_left OO.out hb hi1 hjb A2.out I.out.1 I.out.2;exact⟨rfl,_,q1,q2,S1.out⟩
  ·have zm : ¬ ((m:Int)- (a:Int)=1):=by omega
   by_cases hb1:b=m+1
   ·have zb:(b:Int)- (m:Int)=1:=by omega
    have HB1:Aside (b=m+1):=hb1;clear hb1;go_enter FG,Try.ntmps96;go_wp2;generalize ((m:Int)- (a:Int)==1)=bq1;generalize ((b:Int)- (m:Int)==1)=bq2;go_loopg [14,15] (m-a) (fun kx s14 s15 wr=> ∃i j:Nat,s14= .int .i64 i∧s15= .int .i64 j∧a≤i∧i≤j∧j≤m∧j-i≤kx∧Aside (SWK enc k w0 blk off d wr)∧Aside ((∀t,a≤t→t<i→(ltOf cf) d[m]! d[t]! =false)∧(∀t,j≤t→t<m→(ltOf cf) d[m]! d[t]! =true)))
    case atStart=>exact⟨a,m,rfl,rfl,Nat.le_refl _,by omega,Nat.le_refl _,by omega,S0,⟨fun t h h'=>absurd h' (by omega),fun t h h'=>absurd h' (by omega)⟩⟩
    case round=>
     clear S0;obtain⟨i,j,rfl,rfl,hmi,hij,hjb,hkx,S1,I⟩:=hrel;by_cases hlt:i<j
     ·have hltz:(i:Int)<(j:Int):=by omega
      obtain⟨h,hh⟩: ∃h:Nat,h=(i+j)/ 2:=⟨_,rfl⟩
      have zh:((i:Int)+(j:Int))/ 2=(h:Int):=by omega
      have hh1:i≤h:=by omega
      have hh2:h<j:=by omega
      clear hh;have ph:(h:Int)<(d.size:Int):=by omega
      have pm:(m:Int)<(d.size:Int):=by omega
      go_wp2_with fail;obtain⟨vx,hvx⟩: ∃v,v=d[m]! :=⟨_,rfl⟩
      obtain⟨vy,hvy⟩: ∃v,v=d[h]! :=⟨_,rfl⟩
      have lda:=S1.out.ld R (by omega) P (m) (by omega);have ldb:=S1.out.ld R (by omega) P (h) (by omega);rw[←hvx] at lda;rw[←hvy] at ldb;have hcc:=S1.out.cmp HC.out (by omega) vx vy;have XV:Aside (vx=d[m]! ∧vy=d[h]!):=⟨hvx,hvy⟩
      clear hvx hvy;by_cases hlv:cf vx vy<0
      ·have hd:decide (cf vx vy<0)=true:=decide_eq_true hlv;go_wp2_with fail;go_quiet_grown (first|(go_at_fn g;refine Calls.grown_of (hcc _ _)));have S2:Aside (SWK enc k w0 blk off d (grow (wr.drewN nq) osq)):=S1.out.grown nq osq;clear lda ldb hcc S1;generalize grow (wr.drewN nq) osq=w2 at S2 ⊢;clear nq osq;go_wp2;go_roundg (h-i)
       case measure=>omega
       case rel=>exact⟨i,h,rfl,by first|rfl|go_num|(congr 1;omega),hmi,by omega,by omega,Nat.le_refl _,S2,⟨I.out.1,fun t h1 h2=>keep_dn OO.out A1.out (by omega) h1 h2 (by rw[←XV.out.1,←XV.out.2];exact hd)⟩⟩
      ·have hd:decide (cf vx vy<0)=false:=decide_eq_false hlv;go_wp2_with fail;go_quiet_grown (first|(go_at_fn g;refine Calls.grown_of (hcc _ _)));have S2:Aside (SWK enc k w0 blk off d (grow (wr.drewN nq) osq)):=S1.out.grown nq osq;clear lda ldb hcc S1;generalize grow (wr.drewN nq) osq=w2 at S2 ⊢;clear nq osq;go_wp2;go_roundg (j- (h+1))
       case measure=>omega
       case rel=>exact⟨h+1,j,by first|rfl|go_num|(congr 1;omega),rfl,by omega,by omega,hjb,Nat.le_refl _,S2,⟨fun t h1 h2=>keep_up OO.out A1.out h1 (show t≤h by omega) (by omega) (by rw[←XV.out.1,←XV.out.2];exact hd),I.out.2⟩⟩
     ·obtain rfl:i=j:=by omega
      have hltz: ¬(i:Int)<(i:Int):=by omega
      go_wp2;go_loopg [17] (m-i) (fun kx s17 wr=> ∃kk:Nat,s17= .int .i64 kk∧i≤kk∧kk≤m∧kk-i≤kx∧Aside (SWK enc k w0 blk off (shR m (m-kk) d) wr))
      case atStart=>exact⟨m,rfl,by omega,Nat.le_refl _,Nat.le_refl _,by rw[Nat.sub_self];exact S1⟩
      case round=>
       clear S1;obtain⟨kk,rfl,hak,hki,hkx2,S1⟩:=hrel;by_cases hlt2:i<kk
       ·obtain⟨kp,rfl⟩: ∃kp,kk=kp+1:=⟨kk-1,by omega⟩
        have hltz2:(i:Int)<(kp:Int)+1:=by omega
        have pk0:((kp:Int)+1).toNat=kp+1:=by omega
        have pk1:(0:Int)≤(kp:Int)+1:=by omega
        have pk2:(kp:Int)+1<(d.size:Int):=by omega
        have pk3:(kp:Int)<(d.size:Int):=by omega
        have pk4:IntKind.i64.wrap ((kp:Int)+1)=(kp:Int)+1:=by rw[IntKind.wrap_i64];omega
        have pk5:IntKind.i64.wrap (kp:Int)=(kp:Int):=by rw[IntKind.wrap_i64];omega
        have hds:=shR_size m (m- (kp+1)) d;have HS:Aside (shR m (m-kp) d=swp (shR m (m- (kp+1)) d) (kp+1) kp):=by
         show _=_;rw[show m-kp=(m- (kp+1))+1 by omega,shR,show m- (m- (kp+1))=kp+1 by omega,Nat.add_sub_cancel]
        generalize shR m (m- (kp+1)) d=dk at S1 hds HS;go_wp2_with fail;have S2:Aside (SWK enc k w0 blk off (swp dk (kp+1) (kp)) ((wr.drew.setCells blk (off+(kp+1)*k) (enc dk[kp]!)).setCells blk (off+(kp)*k) (enc dk[kp+1]!))):=S1.out.swapped R (kp+1) (kp) (by omega) (by omega);have sl1:=S1.out.ld1 R (by omega) P (kp+1) (by omega);have sl2:=S1.out.ld1 R (by omega) P (kp) (by omega);have ss1:=S1.out.st1 R (by omega) P (kp+1) (by omega) dk[kp]!;have ss2:=S1.out.st2 R (by omega) P (kp+1) (kp) (by omega) (by omega) dk[kp]! dk[kp+1]!;have sn1:(enc dk[kp+1]!).length=k:=R.hk _;have sn2:(enc dk[kp]!).length=k:=R.hk _;generalize enc dk[kp+1]! =cI at S2 sl1 ss2 sn1;generalize enc dk[kp]! =cJ at S2 sl2 ss1 ss2 sn2;clear S1;go_wp2_with fail;go_big_region_o;clear sl1 sl2 ss1 ss2;generalize (wr.drew.setCells blk (off+(kp+1)*k) cJ).setCells blk (off+(kp)*k) cI=w2 at S2 ⊢;go_wp2;go_roundg (kp-i)
        case measure=>omega
        case rel=>exact⟨kp,by first|rfl|go_num|(congr 1;omega),by omega,by omega,Nat.le_refl _,by rw[HS.out];exact S2⟩
       ·obtain rfl:kk=i:=by omega
        have hltz2: ¬(kk:Int)<(kk:Int):=by omega
        go_wp2
        first|go_end0|(rw[Exit.noGoto_ret];go_end0)|(refine bodyPost_ret (v:= .tuple #[]) (by simp[results,Try.results96,go_sem]) rfl ?_)
        have hb1:=HB1.out;subst hb1;obtain⟨q1,q2⟩:=ins_right OO.out hb hmi hjb A1.out I.out.1 I.out.2;exact⟨rfl,_,q1,q2,S1.out⟩
   ·have zb : ¬((b:Int)- (m:Int)=1):=by omega
    obtain⟨mid,hmid⟩: ∃q:Nat,q=(a+b)/ 2:=⟨_,rfl⟩
    have zmid:((a:Int)+(b:Int))/ 2=(mid:Int):=by omega
    have hmid1:2*mid≤a+b:=by omega
    have hmid2:a+b≤2*mid+1:=by omega
    clear hmid;go_enter FG,Try.ntmps96;by_cases hside:mid<m
    ·have zside:(mid:Int)<(m:Int):=by omega
     have zlo:(mid:Int)+(m:Int)- (b:Int)=((mid+m-b:Nat):Int):=by omega
     obtain⟨lo,hlo⟩: ∃q:Nat,q=mid+m-b:=⟨_,rfl⟩
     obtain⟨r0,hr0⟩: ∃q:Nat,q=mid:=⟨_,rfl⟩
     have hl1:a≤lo:=by omega
     have hl2:lo≤r0:=by omega
     have hl3:r0≤m:=by omega
     have hl4:mid+m≤b+lo:=by omega
     have hl5:r0≤mid:=by omega
     have LO:Aside (lo=mid+m-b∧r0=mid):=⟨hlo,hr0⟩
     clear hlo hr0;go_wp2;generalize ((m:Int)- (a:Int)==1)=bq1;generalize ((b:Int)- (m:Int)==1)=bq2;generalize decide ((mid:Int)<(m:Int))=bq3;go_loopg [20,21] (r0-lo) (fun kx s20 s21 wr=> ∃s r:Nat,s20= .int .i64 s∧s21= .int .i64 r∧lo≤s∧s≤r∧r≤r0∧r-s≤kx∧Aside (SWK enc k w0 blk off d wr)∧Aside ((∀t,lo≤t→t<s→(ltOf cf) d[mid+m-1-t]! d[t]! =false)∧(∀t,r≤t→t<r0→(ltOf cf) d[mid+m-1-t]! d[t]! =true)))
     case atStart=>exact⟨lo,r0,by first|(rw[LO.out.1];done)|(rw[LO.out.1];first|rfl|(congr 1;omega)),by rw[LO.out.2],Nat.le_refl _,hl2,Nat.le_refl _,by omega,S0,⟨fun t h h'=>absurd h' (by omega),fun t h h'=>absurd h' (by omega)⟩⟩
     case round=>
      clear S0;obtain⟨s,r,rfl,rfl,hls,hsr,hrr,hkx,S1,I⟩:=hrel;by_cases hlt:s<r
      ·have hltz:(s:Int)<(r:Int):=by omega
       obtain⟨h,hh⟩: ∃h:Nat,h=(s+r)/ 2:=⟨_,rfl⟩
       have zh:((s:Int)+(r:Int))/ 2=(h:Int):=by omega
       have hh1:s≤h:=by omega
       have hh2:h<r:=by omega
       clear hh;obtain⟨pc,hpc⟩: ∃q:Nat,q=mid+m-1-h:=⟨_,rfl⟩
       have zpc:(mid:Int)+(m:Int)-1- (h:Int)=(pc:Int):=by omega
       have hp1:m≤pc:=by omega
       have hp2:pc<b:=by omega
       have zw:IntKind.i64.wrap (pc:Int)=(pc:Int):=by rw[IntKind.wrap_i64];omega
       have zw2:IntKind.i64.wrap ((mid:Int)+(m:Int)-1- (h:Int))=(pc:Int):=by rw[IntKind.wrap_i64];omega
       have PC:Aside (pc=mid+m-1-h):=hpc;clear hpc;have ph:(h:Int)<(d.size:Int):=by omega
       have pp:(pc:Int)<(d.size:Int):=by omega
       go_wp2_with fail;obtain⟨vx,hvx⟩: ∃v,v=d[pc]! :=⟨_,rfl⟩
       obtain⟨vy,hvy⟩: ∃v,v=d[h]! :=⟨_,rfl⟩
       have lda:=S1.out.ld R (by omega) P (pc) (by omega);have ldb:=S1.out.ld R (by omega) P (h) (by omega);rw[←hvx] at lda;rw[←hvy] at ldb;have hcc:=S1.out.cmp HC.out (by omega) vx vy;have XV:Aside (vx=d[pc]! ∧vy=d[h]!):=⟨hvx,hvy⟩
       clear hvx hvy;by_cases hlv:cf vx vy<0
       ·have hd:decide (cf vx vy<0)=true:=decide_eq_true hlv;go_wp2_with fail;go_quiet_grown (first|(go_at_fn g;refine Calls.grown_of (hcc _ _)));have S2:Aside (SWK enc k w0 blk off d (grow (wr.drewN nq) osq)):=S1.out.grown nq osq;clear lda ldb hcc S1;generalize grow (wr.drewN nq) osq=w2 at S2 ⊢;clear nq osq;go_wp2;go_roundg (h-s)
        case measure=>omega
        case rel=>exact⟨s,h,rfl,by first|rfl|go_num|(congr 1;omega),hls,by omega,by omega,Nat.le_refl _,S2,⟨I.out.1,fun t h1 h2=>by
         have hx:(ltOf cf) d[pc]! d[h]! =true:=by rw[←XV.out.1,←XV.out.2];exact hd
         have hq:=PC.out;have hy:=keep_dn OO.out A1.out (show a≤h by omega) h1 (show t<m by omega) hx;exact keep_lt OO.out A2.out (show m≤mid+m-1-t by omega) (show mid+m-1-t≤pc by omega) hp2 hy⟩⟩
       ·have hd:decide (cf vx vy<0)=false:=decide_eq_false hlv;go_wp2_with fail;go_quiet_grown (first|(go_at_fn g;refine Calls.grown_of (hcc _ _)));have S2:Aside (SWK enc k w0 blk off d (grow (wr.drewN nq) osq)):=S1.out.grown nq osq;clear lda ldb hcc S1;generalize grow (wr.drewN nq) osq=w2 at S2 ⊢;clear nq osq;go_wp2;go_roundg (r- (h+1))
        case measure=>omega
        case rel=>exact⟨h+1,r,by first|rfl|go_num|(congr 1;omega),rfl,by omega,by omega,hrr,Nat.le_refl _,S2,⟨fun t h1 h2=>by
         have hx:(ltOf cf) d[pc]! d[h]! =false:=by rw[←XV.out.1,←XV.out.2];exact hd
         have hq:=PC.out;have hy:=keep_up OO.out A1.out (show a≤t by omega) (show t≤h by omega) (by omega) hx;exact keep_ge OO.out A2.out hp1 (show pc≤mid+m-1-t by omega) (by omega) hy,I.out.2⟩⟩
      ·obtain rfl:s=r:=by omega
       have hltz: ¬(s:Int)<(s:Int):=by omega
       obtain⟨e,he⟩: ∃q:Nat,q=mid+m-s:=⟨_,rfl⟩
       have ze:(mid:Int)+(m:Int)- (s:Int)=(e:Int):=by omega
       have he1:m≤e:=by omega
       have he2:e≤b:=by omega
       have hsm:s≤m:=by omega
       have hsp: ∀d1,Rot s m e d d1→Split (ltOf cf) a s mid e b d1:=fun d1 hr=>by
        refine split_of OO.out A1.out A2.out (by omega) hsm he1 he2 (by omega) hr (fun t u h1 h2 h3 h4=> ?_) (fun t u h1 h2 h3 h4=> ?_)
        ·have hL:=LO.out;have hx:=I.out.1 (s-1) (by omega) (by omega);rw[show mid+m-1- (s-1)=e by omega] at hx;exact keep_ge OO.out A2.out he1 h3 h4 (keep_up OO.out A1.out h1 (show t≤s-1 by omega) (by omega) hx)
        ·have hL:=LO.out;have hx:=I.out.2 s (Nat.le_refl _) (by omega);rw[show mid+m-1-s=e-1 by omega] at hx;have hy:=keep_lt OO.out A2.out h1 (show t≤e-1 by omega) (by omega) hx;exact SWO.asymmA OO.out (keep_dn OO.out A1.out (by omega) h3 h4 hy)
       have HSP:Aside _:=hsp;clear hsp;have HE:Aside (e=mid+m-s):=he;clear he;have hbs:s≤mid:=by omega
       have hme:mid≤e:=by omega
       clear LO I;by_cases hqsm:s<m
       ·have hzsm:(s:Int)<(m:Int):=by omega
        by_cases hqme:m<e
        ·have hzme:(m:Int)<(e:Int):=by omega
         by_cases hqas:a<s
         ·have hzas:(a:Int)<(s:Int):=by omega
          by_cases hqsmid:s<mid
          ·have hzsmid:(s:Int)<(mid:Int):=by omega
           by_cases hqmide:mid<e
           ·have hzmide:(mid:Int)<(e:Int):=by omega
            by_cases hqeb:e<b
            ·have hzeb:(e:Int)<(b:Int):=by omega
             have hc1:=HROT.out s m e d wr (by omega) S1.out (by omega) (by omega) (by omega) (by omega)
             first
             |(go_wp2_with (go_at_call 97;refine hc1.mono ?_;rintro e w1 ⟨rfl,S3⟩))
             |(go_wp2;refine hc1.mono ?_;rintro e w1 ⟨rfl,S3⟩)
             have hR:=rotGo_rot m (e-s) (m-s) (e-m) d (by omega) (by omega) (by omega) (by omega) (by omega);have hPm:=rotGo_perm m a b (e-s) (m-s) (e-m) d (by omega) (by omega) hb (by omega);rw[show m- (m-s)=s by omega,show m+(e-m)=e by omega] at hR;generalize rotGo m (e-s) (m-s) (e-m) d=d1 at hR hPm S3;have S5:Aside (SWK enc k w0 blk off d1 w1):=S3;have SPL:Aside _:=HSP.out d1 hR;have PD:Aside (PermIn a b d d1):=hPm;have hzk:d1.size=d.size:=hR.1;clear S3 hR hPm hc1 S1;have hc2:=IH.out a s mid d1 _ (by omega) (by omega) S5.out (by omega) (by omega) (by omega) (by omega) SPL.out.l1 SPL.out.l2;rw[hzk] at hc2
             first
             |(go_wp2_with (go_at_call 96;refine hc2.mono ?_;rintro e w2 ⟨rfl,d2,q3,q4,S4⟩))
             |(go_wp2;refine hc2.mono ?_;rintro e w2 ⟨rfl,d2,q3,q4,S4⟩)
             have S6:Aside (SWK enc k w0 blk off d2 w2):=S4;clear S4 hc2;have hzd2:d2.size=d.size:=by have:=q3.1;omega
             have R12:Aside (SortedIn (ltOf cf) mid e d2∧SortedIn (ltOf cf) e b d2):=⟨SortedIn.same SPL.out.r1 (fun t h _=>q3.2.1 t (Or.inr h)),SortedIn.same SPL.out.r2 (fun t h _=>q3.2.1 t (Or.inr (by omega)))⟩
             have FIN:Aside (∀d3,PermIn mid b d2 d3→SortedIn (ltOf cf) mid b d3→PermIn a b d d3∧SortedIn (ltOf cf) a b d3):=fun d3 p s'=>by
              obtain⟨x1,x2⟩:=split_done OO.out SPL.out (by omega) (by omega) (by omega) q3 q4 p s';exact⟨permIn_trans _ _ _ a b PD.out x1,x2⟩
             clear q3 q4;have hc3:=IH.out mid e b d2 _ (by omega) (by omega) S6.out (by omega) (by omega) (by omega) (by omega) R12.out.1 R12.out.2;rw[hzd2] at hc3
             first
             |(go_wp2_with (go_at_call 96;refine hc3.mono ?_;rintro e w3 ⟨rfl,d3,q5,q6,S7⟩))
             |(go_wp2;refine hc3.mono ?_;rintro e w3 ⟨rfl,d3,q5,q6,S7⟩)
             try go_wp2
             go_end0;obtain⟨q7,q8⟩:=FIN.out d3 q5 q6;exact⟨rfl,d3,q7,q8,S7⟩
            ·have hzeb: ¬(e:Int)<(b:Int):=by omega
             have hc1:=HROT.out s m e d wr (by omega) S1.out (by omega) (by omega) (by omega) (by omega)
             first
             |(go_wp2_with (go_at_call 97;refine hc1.mono ?_;rintro e w1 ⟨rfl,S3⟩))
             |(go_wp2;refine hc1.mono ?_;rintro e w1 ⟨rfl,S3⟩)
             have hR:=rotGo_rot m (e-s) (m-s) (e-m) d (by omega) (by omega) (by omega) (by omega) (by omega);have hPm:=rotGo_perm m a b (e-s) (m-s) (e-m) d (by omega) (by omega) hb (by omega);rw[show m- (m-s)=s by omega,show m+(e-m)=e by omega] at hR;generalize rotGo m (e-s) (m-s) (e-m) d=d1 at hR hPm S3;have S5:Aside (SWK enc k w0 blk off d1 w1):=S3;have SPL:Aside _:=HSP.out d1 hR;have PD:Aside (PermIn a b d d1):=hPm;have hzk:d1.size=d.size:=hR.1;clear S3 hR hPm hc1 S1;have hc2:=IH.out a s mid d1 _ (by omega) (by omega) S5.out (by omega) (by omega) (by omega) (by omega) SPL.out.l1 SPL.out.l2;rw[hzk] at hc2
             first
             |(go_wp2_with (go_at_call 96;refine hc2.mono ?_;rintro e w2 ⟨rfl,d2,q3,q4,S4⟩))
             |(go_wp2;refine hc2.mono ?_;rintro e w2 ⟨rfl,d2,q3,q4,S4⟩)
             have S6:Aside (SWK enc k w0 blk off d2 w2):=S4;clear S4 hc2;have hzd2:d2.size=d.size:=by have:=q3.1;omega
             have R12:Aside (SortedIn (ltOf cf) mid e d2∧SortedIn (ltOf cf) e b d2):=⟨SortedIn.same SPL.out.r1 (fun t h _=>q3.2.1 t (Or.inr h)),SortedIn.same SPL.out.r2 (fun t h _=>q3.2.1 t (Or.inr (by omega)))⟩
             have FIN:Aside (∀d3,PermIn mid b d2 d3→SortedIn (ltOf cf) mid b d3→PermIn a b d d3∧SortedIn (ltOf cf) a b d3):=fun d3 p s'=>by
              obtain⟨x1,x2⟩:=split_done OO.out SPL.out (by omega) (by omega) (by omega) q3 q4 p s';exact⟨permIn_trans _ _ _ a b PD.out x1,x2⟩
             clear q3 q4;have r3:SortedIn (ltOf cf) mid b d2:=by
              rcases Nat.lt_or_ge mid e with c|c
              ·have:e=b:=by omega
               subst this;exact R12.out.1
              ·have:e=mid:=by omega
               subst this;exact R12.out.2
             obtain⟨q7,q8⟩:=FIN.out d2 (permIn_refl _ _ _) r3;clear r3;have Q:Aside (PermIn a b d d2∧SortedIn (ltOf cf) a b d2):=⟨q7,q8⟩
             clear q7 q8
             try go_wp2
             go_end0;exact⟨rfl,_,Q.out.1,Q.out.2,S6.out⟩
           ·have hzmide: ¬(mid:Int)<(e:Int):=by omega
            have hc1:=HROT.out s m e d wr (by omega) S1.out (by omega) (by omega) (by omega) (by omega)
            first
            |(go_wp2_with (go_at_call 97;refine hc1.mono ?_;rintro e w1 ⟨rfl,S3⟩))
            |(go_wp2;refine hc1.mono ?_;rintro e w1 ⟨rfl,S3⟩)
            have hR:=rotGo_rot m (e-s) (m-s) (e-m) d (by omega) (by omega) (by omega) (by omega) (by omega);have hPm:=rotGo_perm m a b (e-s) (m-s) (e-m) d (by omega) (by omega) hb (by omega);rw[show m- (m-s)=s by omega,show m+(e-m)=e by omega] at hR;generalize rotGo m (e-s) (m-s) (e-m) d=d1 at hR hPm S3;have S5:Aside (SWK enc k w0 blk off d1 w1):=S3;have SPL:Aside _:=HSP.out d1 hR;have PD:Aside (PermIn a b d d1):=hPm;have hzk:d1.size=d.size:=hR.1;clear S3 hR hPm hc1 S1;have hc2:=IH.out a s mid d1 _ (by omega) (by omega) S5.out (by omega) (by omega) (by omega) (by omega) SPL.out.l1 SPL.out.l2;rw[hzk] at hc2
            first
            |(go_wp2_with (go_at_call 96;refine hc2.mono ?_;rintro e w2 ⟨rfl,d2,q3,q4,S4⟩))
            |(go_wp2;refine hc2.mono ?_;rintro e w2 ⟨rfl,d2,q3,q4,S4⟩)
            have S6:Aside (SWK enc k w0 blk off d2 w2):=S4;clear S4 hc2;have hzd2:d2.size=d.size:=by have:=q3.1;omega
            have R12:Aside (SortedIn (ltOf cf) mid e d2∧SortedIn (ltOf cf) e b d2):=⟨SortedIn.same SPL.out.r1 (fun t h _=>q3.2.1 t (Or.inr h)),SortedIn.same SPL.out.r2 (fun t h _=>q3.2.1 t (Or.inr (by omega)))⟩
            have FIN:Aside (∀d3,PermIn mid b d2 d3→SortedIn (ltOf cf) mid b d3→PermIn a b d d3∧SortedIn (ltOf cf) a b d3):=fun d3 p s'=>by
             obtain⟨x1,x2⟩:=split_done OO.out SPL.out (by omega) (by omega) (by omega) q3 q4 p s';exact⟨permIn_trans _ _ _ a b PD.out x1,x2⟩
            clear q3 q4;have r3:SortedIn (ltOf cf) mid b d2:=by
             rcases Nat.lt_or_ge mid e with c|c
             ·have:e=b:=by omega
              subst this;exact R12.out.1
             ·have:e=mid:=by omega
              subst this;exact R12.out.2
            obtain⟨q7,q8⟩:=FIN.out d2 (permIn_refl _ _ _) r3;clear r3;have Q:Aside (PermIn a b d d2∧SortedIn (ltOf cf) a b d2):=⟨q7,q8⟩
            clear q7 q8
            try go_wp2
            go_end0;exact⟨rfl,_,Q.out.1,Q.out.2,S6.out⟩
          ·have hzsmid: ¬(s:Int)<(mid:Int):=by omega
           by_cases hqmide:mid<e
           ·have hzmide:(mid:Int)<(e:Int):=by omega
            by_cases hqeb:e<b
            ·have hzeb:(e:Int)<(b:Int):=by omega
             have hc1:=HROT.out s m e d wr (by omega) S1.out (by omega) (by omega) (by omega) (by omega)
             first
             |(go_wp2_with (go_at_call 97;refine hc1.mono ?_;rintro e w1 ⟨rfl,S3⟩))
             |(go_wp2;refine hc1.mono ?_;rintro e w1 ⟨rfl,S3⟩)
             have hR:=rotGo_rot m (e-s) (m-s) (e-m) d (by omega) (by omega) (by omega) (by omega) (by omega);have hPm:=rotGo_perm m a b (e-s) (m-s) (e-m) d (by omega) (by omega) hb (by omega);rw[show m- (m-s)=s by omega,show m+(e-m)=e by omega] at hR;generalize rotGo m (e-s) (m-s) (e-m) d=d1 at hR hPm S3;have S5:Aside (SWK enc k w0 blk off d1 w1):=S3;have SPL:Aside _:=HSP.out d1 hR;have PD:Aside (PermIn a b d d1):=hPm;have hzk:d1.size=d.size:=hR.1;clear S3 hR hPm hc1 S1;have R12:Aside (SortedIn (ltOf cf) mid e d1∧SortedIn (ltOf cf) e b d1):=⟨SPL.out.r1,SPL.out.r2⟩
             have r4:SortedIn (ltOf cf) a mid d1:=by
              rcases Nat.lt_or_ge a s with c|c
              ·have:s=mid:=by omega
               subst this;exact SPL.out.l1
              ·have:s=a:=by omega
               subst this;exact SPL.out.l2
             have FIN:Aside (∀d3,PermIn mid b d1 d3→SortedIn (ltOf cf) mid b d3→PermIn a b d d3∧SortedIn (ltOf cf) a b d3):=fun d3 p s'=>by
              obtain⟨x1,x2⟩:=split_done OO.out SPL.out (by omega) (by omega) (by omega) (permIn_refl _ _ _) r4 p s';exact⟨permIn_trans _ _ _ a b PD.out x1,x2⟩
             clear r4;have hc3:=IH.out mid e b d1 _ (by omega) (by omega) S5.out (by omega) (by omega) (by omega) (by omega) R12.out.1 R12.out.2;rw[hzk] at hc3
             first
             |(go_wp2_with (go_at_call 96;refine hc3.mono ?_;rintro e w3 ⟨rfl,d3,q5,q6,S7⟩))
             |(go_wp2;refine hc3.mono ?_;rintro e w3 ⟨rfl,d3,q5,q6,S7⟩)
             try go_wp2
             go_end0;obtain⟨q7,q8⟩:=FIN.out d3 q5 q6;exact⟨rfl,d3,q7,q8,S7⟩
            ·have hzeb: ¬(e:Int)<(b:Int):=by omega
             have hc1:=HROT.out s m e d wr (by omega) S1.out (by omega) (by omega) (by omega) (by omega)
             first
             |(go_wp2_with (go_at_call 97;refine hc1.mono ?_;rintro e w1 ⟨rfl,S3⟩))
             |(go_wp2;refine hc1.mono ?_;rintro e w1 ⟨rfl,S3⟩)
             have hR:=rotGo_rot m (e-s) (m-s) (e-m) d (by omega) (by omega) (by omega) (by omega) (by omega);have hPm:=rotGo_perm m a b (e-s) (m-s) (e-m) d (by omega) (by omega) hb (by omega);rw[show m- (m-s)=s by omega,show m+(e-m)=e by omega] at hR;generalize rotGo m (e-s) (m-s) (e-m) d=d1 at hR hPm S3;have S5:Aside (SWK enc k w0 blk off d1 w1):=S3;have SPL:Aside _:=HSP.out d1 hR;have PD:Aside (PermIn a b d d1):=hPm;have hzk:d1.size=d.size:=hR.1;clear S3 hR hPm hc1 S1;have R12:Aside (SortedIn (ltOf cf) mid e d1∧SortedIn (ltOf cf) e b d1):=⟨SPL.out.r1,SPL.out.r2⟩
             have r4:SortedIn (ltOf cf) a mid d1:=by
              rcases Nat.lt_or_ge a s with c|c
              ·have:s=mid:=by omega
               subst this;exact SPL.out.l1
              ·have:s=a:=by omega
               subst this;exact SPL.out.l2
             have FIN:Aside (∀d3,PermIn mid b d1 d3→SortedIn (ltOf cf) mid b d3→PermIn a b d d3∧SortedIn (ltOf cf) a b d3):=fun d3 p s'=>by
              obtain⟨x1,x2⟩:=split_done OO.out SPL.out (by omega) (by omega) (by omega) (permIn_refl _ _ _) r4 p s';exact⟨permIn_trans _ _ _ a b PD.out x1,x2⟩
             clear r4;have r3:SortedIn (ltOf cf) mid b d1:=by
              rcases Nat.lt_or_ge mid e with c|c
              ·have:e=b:=by omega
               subst this;exact R12.out.1
              ·have:e=mid:=by omega
               subst this;exact R12.out.2
             obtain⟨q7,q8⟩:=FIN.out d1 (permIn_refl _ _ _) r3;clear r3;have Q:Aside (PermIn a b d d1∧SortedIn (ltOf cf) a b d1):=⟨q7,q8⟩
             clear q7 q8
             try go_wp2
             go_end0;exact⟨rfl,_,Q.out.1,Q.out.2,S5.out⟩
           ·have hzmide: ¬(mid:Int)<(e:Int):=by omega
            have hc1:=HROT.out s m e d wr (by omega) S1.out (by omega) (by omega) (by omega) (by omega)
            first
            |(go_wp2_with (go_at_call 97;refine hc1.mono ?_;rintro e w1 ⟨rfl,S3⟩))
            |(go_wp2;refine hc1.mono ?_;rintro e w1 ⟨rfl,S3⟩)
            have hR:=rotGo_rot m (e-s) (m-s) (e-m) d (by omega) (by omega) (by omega) (by omega) (by omega);have hPm:=rotGo_perm m a b (e-s) (m-s) (e-m) d (by omega) (by omega) hb (by omega);rw[show m- (m-s)=s by omega,show m+(e-m)=e by omega] at hR;generalize rotGo m (e-s) (m-s) (e-m) d=d1 at hR hPm S3;have S5:Aside (SWK enc k w0 blk off d1 w1):=S3;have SPL:Aside _:=HSP.out d1 hR;have PD:Aside (PermIn a b d d1):=hPm;have hzk:d1.size=d.size:=hR.1;clear S3 hR hPm hc1 S1;have R12:Aside (SortedIn (ltOf cf) mid e d1∧SortedIn (ltOf cf) e b d1):=⟨SPL.out.r1,SPL.out.r2⟩
            have r4:SortedIn (ltOf cf) a mid d1:=by
             rcases Nat.lt_or_ge a s with c|c
             ·have:s=mid:=by omega
              subst this;exact SPL.out.l1
             ·have:s=a:=by omega
              subst this;exact SPL.out.l2
            have FIN:Aside (∀d3,PermIn mid b d1 d3→SortedIn (ltOf cf) mid b d3→PermIn a b d d3∧SortedIn (ltOf cf) a b d3):=fun d3 p s'=>by
             obtain⟨x1,x2⟩:=split_done OO.out SPL.out (by omega) (by omega) (by omega) (permIn_refl _ _ _) r4 p s';exact⟨permIn_trans _ _ _ a b PD.out x1,x2⟩
            clear r4;have r3:SortedIn (ltOf cf) mid b d1:=by
             rcases Nat.lt_or_ge mid e with c|c
             ·have:e=b:=by omega
              subst this;exact R12.out.1
             ·have:e=mid:=by omega
              subst this;exact R12.out.2
            obtain⟨q7,q8⟩:=FIN.out d1 (permIn_refl _ _ _) r3;clear r3;have Q:Aside (PermIn a b d d1∧SortedIn (ltOf cf) a b d1):=⟨q7,q8⟩
            clear q7 q8
            try go_wp2
            go_end0;exact⟨rfl,_,Q.out.1,Q.out.2,S5.out⟩
         ·have hzas: ¬(a:Int)<(s:Int):=by omega
          by_cases hqmide:mid<e
          ·have hzmide:(mid:Int)<(e:Int):=by omega
           by_cases hqeb:e<b
           ·have hzeb:(e:Int)<(b:Int):=by omega
            have hc1:=HROT.out s m e d wr (by omega) S1.out (by omega) (by omega) (by omega) (by omega)
            first
            |(go_wp2_with (go_at_call 97;refine hc1.mono ?_;rintro e w1 ⟨rfl,S3⟩))
            |(go_wp2;refine hc1.mono ?_;rintro e w1 ⟨rfl,S3⟩)
            have hR:=rotGo_rot m (e-s) (m-s) (e-m) d (by omega) (by omega) (by omega) (by omega) (by omega);have hPm:=rotGo_perm m a b (e-s) (m-s) (e-m) d (by omega) (by omega) hb (by omega);rw[show m- (m-s)=s by omega,show m+(e-m)=e by omega] at hR;generalize rotGo m (e-s) (m-s) (e-m) d=d1 at hR hPm S3;have S5:Aside (SWK enc k w0 blk off d1 w1):=S3;have SPL:Aside _:=HSP.out d1 hR;have PD:Aside (PermIn a b d d1):=hPm;have hzk:d1.size=d.size:=hR.1;clear S3 hR hPm hc1 S1;have R12:Aside (SortedIn (ltOf cf) mid e d1∧SortedIn (ltOf cf) e b d1):=⟨SPL.out.r1,SPL.out.r2⟩
            have r4:SortedIn (ltOf cf) a mid d1:=by
             rcases Nat.lt_or_ge a s with c|c
             ·have:s=mid:=by omega
              subst this;exact SPL.out.l1
             ·have:s=a:=by omega
              subst this;exact SPL.out.l2
            have FIN:Aside (∀d3,PermIn mid b d1 d3→SortedIn (ltOf cf) mid b d3→PermIn a b d d3∧SortedIn (ltOf cf) a b d3):=fun d3 p s'=>by
             obtain⟨x1,x2⟩:=split_done OO.out SPL.out (by omega) (by omega) (by omega) (permIn_refl _ _ _) r4 p s';exact⟨permIn_trans _ _ _ a b PD.out x1,x2⟩
            clear r4;have hc3:=IH.out mid e b d1 _ (by omega) (by omega) S5.out (by omega) (by omega) (by omega) (by omega) R12.out.1 R12.out.2;rw[hzk] at hc3
            first
            |(go_wp2_with (go_at_call 96;refine hc3.mono ?_;rintro e w3 ⟨rfl,d3,q5,q6,S7⟩))
            |(go_wp2;refine hc3.mono ?_;rintro e w3 ⟨rfl,d3,q5,q6,S7⟩)
            try go_wp2
            go_end0;obtain⟨q7,q8⟩:=FIN.out d3 q5 q6;exact⟨rfl,d3,q7,q8,S7⟩
           ·have hzeb: ¬(e:Int)<(b:Int):=by omega
            have hc1:=HROT.out s m e d wr (by omega) S1.out (by omega) (by omega) (by omega) (by omega)
            first
            |(go_wp2_with (go_at_call 97;refine hc1.mono ?_;rintro e w1 ⟨rfl,S3⟩))
            |(go_wp2;refine hc1.mono ?_;rintro e w1 ⟨rfl,S3⟩)
            have hR:=rotGo_rot m (e-s) (m-s) (e-m) d (by omega) (by omega) (by omega) (by omega) (by omega);have hPm:=rotGo_perm m a b (e-s) (m-s) (e-m) d (by omega) (by omega) hb (by omega);rw[show m- (m-s)=s by omega,show m+(e-m)=e by omega] at hR;generalize rotGo m (e-s) (m-s) (e-m) d=d1 at hR hPm S3;have S5:Aside (SWK enc k w0 blk off d1 w1):=S3;have SPL:Aside _:=HSP.out d1 hR;have PD:Aside (PermIn a b d d1):=hPm;have hzk:d1.size=d.size:=hR.1;clear S3 hR hPm hc1 S1;have R12:Aside (SortedIn (ltOf cf) mid e d1∧SortedIn (ltOf cf) e b d1):=⟨SPL.out.r1,SPL.out.r2⟩
            have r4:SortedIn (ltOf cf) a mid d1:=by
             rcases Nat.lt_or_ge a s with c|c
             ·have:s=mid:=by omega
              subst this;exact SPL.out.l1
             ·have:s=a:=by omega
              subst this;exact SPL.out.l2
            have FIN:Aside (∀d3,PermIn mid b d1 d3→SortedIn (ltOf cf) mid b d3→PermIn a b d d3∧SortedIn (ltOf cf) a b d3):=fun d3 p s'=>by
             obtain⟨x1,x2⟩:=split_done OO.out SPL.out (by omega) (by omega) (by omega) (permIn_refl _ _ _) r4 p s';exact⟨permIn_trans _ _ _ a b PD.out x1,x2⟩
            clear r4;have r3:SortedIn (ltOf cf) mid b d1:=by
             rcases Nat.lt_or_ge mid e with c|c
             ·have:e=b:=by omega
              subst this;exact R12.out.1
             ·have:e=mid:=by omega
              subst this;exact R12.out.2
            obtain⟨q7,q8⟩:=FIN.out d1 (permIn_refl _ _ _) r3;clear r3;have Q:Aside (PermIn a b d d1∧SortedIn (ltOf cf) a b d1):=⟨q7,q8⟩
            clear q7 q8
            try go_wp2
            go_end0;exact⟨rfl,_,Q.out.1,Q.out.2,S5.out⟩
          ·have hzmide: ¬(mid:Int)<(e:Int):=by omega
           have hc1:=HROT.out s m e d wr (by omega) S1.out (by omega) (by omega) (by omega) (by omega)
           first
           |(go_wp2_with (go_at_call 97;refine hc1.mono ?_;rintro e w1 ⟨rfl,S3⟩))
           |(go_wp2;refine hc1.mono ?_;rintro e w1 ⟨rfl,S3⟩)
           have hR:=rotGo_rot m (e-s) (m-s) (e-m) d (by omega) (by omega) (by omega) (by omega) (by omega);have hPm:=rotGo_perm m a b (e-s) (m-s) (e-m) d (by omega) (by omega) hb (by omega);rw[show m- (m-s)=s by omega,show m+(e-m)=e by omega] at hR;generalize rotGo m (e-s) (m-s) (e-m) d=d1 at hR hPm S3;have S5:Aside (SWK enc k w0 blk off d1 w1):=S3;have SPL:Aside _:=HSP.out d1 hR;have PD:Aside (PermIn a b d d1):=hPm;have hzk:d1.size=d.size:=hR.1;clear S3 hR hPm hc1 S1;have R12:Aside (SortedIn (ltOf cf) mid e d1∧SortedIn (ltOf cf) e b d1):=⟨SPL.out.r1,SPL.out.r2⟩
           have r4:SortedIn (ltOf cf) a mid d1:=by
            rcases Nat.lt_or_ge a s with c|c
            ·have:s=mid:=by omega
             subst this;exact SPL.out.l1
            ·have:s=a:=by omega
             subst this;exact SPL.out.l2
           have FIN:Aside (∀d3,PermIn mid b d1 d3→SortedIn (ltOf cf) mid b d3→PermIn a b d d3∧SortedIn (ltOf cf) a b d3):=fun d3 p s'=>by
            obtain⟨x1,x2⟩:=split_done OO.out SPL.out (by omega) (by omega) (by omega) (permIn_refl _ _ _) r4 p s';exact⟨permIn_trans _ _ _ a b PD.out x1,x2⟩
           clear r4;have r3:SortedIn (ltOf cf) mid b d1:=by
            rcases Nat.lt_or_ge mid e with c|c
            ·have:e=b:=by omega
             subst this;exact R12.out.1
            ·have:e=mid:=by omega
             subst this;exact R12.out.2
           obtain⟨q7,q8⟩:=FIN.out d1 (permIn_refl _ _ _) r3;clear r3;have Q:Aside (PermIn a b d d1∧SortedIn (ltOf cf) a b d1):=⟨q7,q8⟩
           clear q7 q8
           try go_wp2
           go_end0;exact⟨rfl,_,Q.out.1,Q.out.2,S5.out⟩
        ·have hzme: ¬(m:Int)<(e:Int):=by omega
         by_cases hqas:a<s
         ·have hzas:(a:Int)<(s:Int):=by omega
          by_cases hqsmid:s<mid
          ·have hzsmid:(s:Int)<(mid:Int):=by omega
           by_cases hqmide:mid<e
           ·have hzmide:(mid:Int)<(e:Int):=by omega
            by_cases hqeb:e<b
            ·have hzeb:(e:Int)<(b:Int):=by omega
             have hR:Rot s m e d d:=by
              refine⟨rfl,fun t=> ?_⟩;by_cases c1:s≤t∧t<s+(e-m)
              ·rw[if_pos c1];exact at_eq d (by omega)
              ·by_cases c2:s+(e-m)≤t∧t<e
               ·rw[if_neg c1,if_pos c2];exact at_eq d (by omega)
               ·rw[if_neg c1,if_neg c2]
             have SPL:Aside _:=HSP.out d hR;have PD:Aside (PermIn a b d d):=permIn_refl _ _ _;clear hR;have hc2:=IH.out a s mid d _ (by omega) (by omega) S1.out (by omega) (by omega) (by omega) (by omega) SPL.out.l1 SPL.out.l2
             first
             |(go_wp2_with (go_at_call 96;refine hc2.mono ?_;rintro e w2 ⟨rfl,d2,q3,q4,S4⟩))
             |(go_wp2;refine hc2.mono ?_;rintro e w2 ⟨rfl,d2,q3,q4,S4⟩)
             have S6:Aside (SWK enc k w0 blk off d2 w2):=S4;clear S4 hc2;have hzd2:d2.size=d.size:=by have:=q3.1;omega
             have R12:Aside (SortedIn (ltOf cf) mid e d2∧SortedIn (ltOf cf) e b d2):=⟨SortedIn.same SPL.out.r1 (fun t h _=>q3.2.1 t (Or.inr h)),SortedIn.same SPL.out.r2 (fun t h _=>q3.2.1 t (Or.inr (by omega)))⟩
             have FIN:Aside (∀d3,PermIn mid b d2 d3→SortedIn (ltOf cf) mid b d3→PermIn a b d d3∧SortedIn (ltOf cf) a b d3):=fun d3 p s'=>by
              obtain⟨x1,x2⟩:=split_done OO.out SPL.out (by omega) (by omega) (by omega) q3 q4 p s';exact⟨permIn_trans _ _ _ a b PD.out x1,x2⟩
             clear q3 q4;have hc3:=IH.out mid e b d2 _ (by omega) (by omega) S6.out (by omega) (by omega) (by omega) (by omega) R12.out.1 R12.out.2;rw[hzd2] at hc3
             first
             |(go_wp2_with (go_at_call 96;refine hc3.mono ?_;rintro e w3 ⟨rfl,d3,q5,q6,S7⟩))
             |(go_wp2;refine hc3.mono ?_;rintro e w3 ⟨rfl,d3,q5,q6,S7⟩)
             try go_wp2
             go_end0;obtain⟨q7,q8⟩:=FIN.out d3 q5 q6;exact⟨rfl,d3,q7,q8,S7⟩
            ·have hzeb: ¬(e:Int)<(b:Int):=by omega
             have hR:Rot s m e d d:=by
              refine⟨rfl,fun t=> ?_⟩;by_cases c1:s≤t∧t<s+(e-m)
              ·rw[if_pos c1];exact at_eq d (by omega)
              ·by_cases c2:s+(e-m)≤t∧t<e
               ·rw[if_neg c1,if_pos c2];exact at_eq d (by omega)
               ·rw[if_neg c1,if_neg c2]
             have SPL:Aside _:=HSP.out d hR;have PD:Aside (PermIn a b d d):=permIn_refl _ _ _;clear hR;have hc2:=IH.out a s mid d _ (by omega) (by omega) S1.out (by omega) (by omega) (by omega) (by omega) SPL.out.l1 SPL.out.l2
             first
             |(go_wp2_with (go_at_call 96;refine hc2.mono ?_;rintro e w2 ⟨rfl,d2,q3,q4,S4⟩))
             |(go_wp2;refine hc2.mono ?_;rintro e w2 ⟨rfl,d2,q3,q4,S4⟩)
             have S6:Aside (SWK enc k w0 blk off d2 w2):=S4;clear S4 hc2;have hzd2:d2.size=d.size:=by have:=q3.1;omega
             have R12:Aside (SortedIn (ltOf cf) mid e d2∧SortedIn (ltOf cf) e b d2):=⟨SortedIn.same SPL.out.r1 (fun t h _=>q3.2.1 t (Or.inr h)),SortedIn.same SPL.out.r2 (fun t h _=>q3.2.1 t (Or.inr (by omega)))⟩
             have FIN:Aside (∀d3,PermIn mid b d2 d3→SortedIn (ltOf cf) mid b d3→PermIn a b d d3∧SortedIn (ltOf cf) a b d3):=fun d3 p s'=>by
              obtain⟨x1,x2⟩:=split_done OO.out SPL.out (by omega) (by omega) (by omega) q3 q4 p s';exact⟨permIn_trans _ _ _ a b PD.out x1,x2⟩
             clear q3 q4;have r3:SortedIn (ltOf cf) mid b d2:=by
              rcases Nat.lt_or_ge mid e with c|c
              ·have:e=b:=by omega
               subst this;exact R12.out.1
              ·have:e=mid:=by omega
               subst this;exact R12.out.2
             obtain⟨q7,q8⟩:=FIN.out d2 (permIn_refl _ _ _) r3;clear r3;have Q:Aside (PermIn a b d d2∧SortedIn (ltOf cf) a b d2):=⟨q7,q8⟩
             clear q7 q8
             try go_wp2
             go_end0;exact⟨rfl,_,Q.out.1,Q.out.2,S6.out⟩
           ·have hzmide: ¬(mid:Int)<(e:Int):=by omega
            have hR:Rot s m e d d:=by
             refine⟨rfl,fun t=> ?_⟩;by_cases c1:s≤t∧t<s+(e-m)
             ·rw[if_pos c1];exact at_eq d (by omega)
             ·by_cases c2:s+(e-m)≤t∧t<e
              ·rw[if_neg c1,if_pos c2];exact at_eq d (by omega)
              ·rw[if_neg c1,if_neg c2]
            have SPL:Aside _:=HSP.out d hR;have PD:Aside (PermIn a b d d):=permIn_refl _ _ _;clear hR;have hc2:=IH.out a s mid d _ (by omega) (by omega) S1.out (by omega) (by omega) (by omega) (by omega) SPL.out.l1 SPL.out.l2
            first
            |(go_wp2_with (go_at_call 96;refine hc2.mono ?_;rintro e w2 ⟨rfl,d2,q3,q4,S4⟩))
            |(go_wp2;refine hc2.mono ?_;rintro e w2 ⟨rfl,d2,q3,q4,S4⟩)
            have S6:Aside (SWK enc k w0 blk off d2 w2):=S4;clear S4 hc2;have hzd2:d2.size=d.size:=by have:=q3.1;omega
            have R12:Aside (SortedIn (ltOf cf) mid e d2∧SortedIn (ltOf cf) e b d2):=⟨SortedIn.same SPL.out.r1 (fun t h _=>q3.2.1 t (Or.inr h)),SortedIn.same SPL.out.r2 (fun t h _=>q3.2.1 t (Or.inr (by omega)))⟩
            have FIN:Aside (∀d3,PermIn mid b d2 d3→SortedIn (ltOf cf) mid b d3→PermIn a b d d3∧SortedIn (ltOf cf) a b d3):=fun d3 p s'=>by
             obtain⟨x1,x2⟩:=split_done OO.out SPL.out (by omega) (by omega) (by omega) q3 q4 p s';exact⟨permIn_trans _ _ _ a b PD.out x1,x2⟩
            clear q3 q4;have r3:SortedIn (ltOf cf) mid b d2:=by
             rcases Nat.lt_or_ge mid e with c|c
             ·have:e=b:=by omega
              subst this;exact R12.out.1
             ·have:e=mid:=by omega
              subst this;exact R12.out.2
            obtain⟨q7,q8⟩:=FIN.out d2 (permIn_refl _ _ _) r3;clear r3;have Q:Aside (PermIn a b d d2∧SortedIn (ltOf cf) a b d2):=⟨q7,q8⟩
            clear q7 q8
            try go_wp2
            go_end0;exact⟨rfl,_,Q.out.1,Q.out.2,S6.out⟩
          ·have hzsmid: ¬(s:Int)<(mid:Int):=by omega
           by_cases hqmide:mid<e
           ·have hzmide:(mid:Int)<(e:Int):=by omega
            by_cases hqeb:e<b
            ·have hzeb:(e:Int)<(b:Int):=by omega
             have hR:Rot s m e d d:=by
              refine⟨rfl,fun t=> ?_⟩;by_cases c1:s≤t∧t<s+(e-m)
              ·rw[if_pos c1];exact at_eq d (by omega)
              ·by_cases c2:s+(e-m)≤t∧t<e
               ·rw[if_neg c1,if_pos c2];exact at_eq d (by omega)
               ·rw[if_neg c1,if_neg c2]
             have SPL:Aside _:=HSP.out d hR;have PD:Aside (PermIn a b d d):=permIn_refl _ _ _;clear hR;have R12:Aside (SortedIn (ltOf cf) mid e d∧SortedIn (ltOf cf) e b d):=⟨SPL.out.r1,SPL.out.r2⟩
             have r4:SortedIn (ltOf cf) a mid d:=by
              rcases Nat.lt_or_ge a s with c|c
              ·have:s=mid:=by omega
               subst this;exact SPL.out.l1
              ·have:s=a:=by omega
               subst this;exact SPL.out.l2
             have FIN:Aside (∀d3,PermIn mid b d d3→SortedIn (ltOf cf) mid b d3→PermIn a b d d3∧SortedIn (ltOf cf) a b d3):=fun d3 p s'=>by
              obtain⟨x1,x2⟩:=split_done OO.out SPL.out (by omega) (by omega) (by omega) (permIn_refl _ _ _) r4 p s';exact⟨permIn_trans _ _ _ a b PD.out x1,x2⟩
             clear r4;have hc3:=IH.out mid e b d _ (by omega) (by omega) S1.out (by omega) (by omega) (by omega) (by omega) R12.out.1 R12.out.2
             first
             |(go_wp2_with (go_at_call 96;refine hc3.mono ?_;rintro e w3 ⟨rfl,d3,q5,q6,S7⟩))
             |(go_wp2;refine hc3.mono ?_;rintro e w3 ⟨rfl,d3,q5,q6,S7⟩)
             try go_wp2
             go_end0;obtain⟨q7,q8⟩:=FIN.out d3 q5 q6;exact⟨rfl,d3,q7,q8,S7⟩
            ·have hzeb: ¬(e:Int)<(b:Int):=by omega
             have hR:Rot s m e d d:=by
              refine⟨rfl,fun t=> ?_⟩;by_cases c1:s≤t∧t<s+(e-m)
              ·rw[if_pos c1];exact at_eq d (by omega)
              ·by_cases c2:s+(e-m)≤t∧t<e
               ·rw[if_neg c1,if_pos c2];exact at_eq d (by omega)
               ·rw[if_neg c1,if_neg c2]
             have SPL:Aside _:=HSP.out d hR;have PD:Aside (PermIn a b d d):=permIn_refl _ _ _;clear hR;have R12:Aside (SortedIn (ltOf cf) mid e d∧SortedIn (ltOf cf) e b d):=⟨SPL.out.r1,SPL.out.r2⟩
             have r4:SortedIn (ltOf cf) a mid d:=by
              rcases Nat.lt_or_ge a s with c|c
              ·have:s=mid:=by omega
               subst this;exact SPL.out.l1
              ·have:s=a:=by omega
               subst this;exact SPL.out.l2
             have FIN:Aside (∀d3,PermIn mid b d d3→SortedIn (ltOf cf) mid b d3→PermIn a b d d3∧SortedIn (ltOf cf) a b d3):=fun d3 p s'=>by
              obtain⟨x1,x2⟩:=split_done OO.out SPL.out (by omega) (by omega) (by omega) (permIn_refl _ _ _) r4 p s';exact⟨permIn_trans _ _ _ a b PD.out x1,x2⟩
             clear r4;have r3:SortedIn (ltOf cf) mid b d:=by
              rcases Nat.lt_or_ge mid e with c|c
              ·have:e=b:=by omega
               subst this;exact R12.out.1
              ·have:e=mid:=by omega
               subst this;exact R12.out.2
             obtain⟨q7,q8⟩:=FIN.out d (permIn_refl _ _ _) r3;clear r3;have Q:Aside (PermIn a b d d∧SortedIn (ltOf cf) a b d):=⟨q7,q8⟩
             clear q7 q8
             try go_wp2
             go_end0;exact⟨rfl,_,Q.out.1,Q.out.2,S1.out⟩
           ·have hzmide: ¬(mid:Int)<(e:Int):=by omega
            have hR:Rot s m e d d:=by
             refine⟨rfl,fun t=> ?_⟩;by_cases c1:s≤t∧t<s+(e-m)
             ·rw[if_pos c1];exact at_eq d (by omega)
             ·by_cases c2:s+(e-m)≤t∧t<e
              ·rw[if_neg c1,if_pos c2];exact at_eq d (by omega)
              ·rw[if_neg c1,if_neg c2]
            have SPL:Aside _:=HSP.out d hR;have PD:Aside (PermIn a b d d):=permIn_refl _ _ _;clear hR;have R12:Aside (SortedIn (ltOf cf) mid e d∧SortedIn (ltOf cf) e b d):=⟨SPL.out.r1,SPL.out.r2⟩
            have r4:SortedIn (ltOf cf) a mid d:=by
             rcases Nat.lt_or_ge a s with c|c
             ·have:s=mid:=by omega
              subst this;exact SPL.out.l1
             ·have:s=a:=by omega
              subst this;exact SPL.out.l2
            have FIN:Aside (∀d3,PermIn mid b d d3→SortedIn (ltOf cf) mid b d3→PermIn a b d d3∧SortedIn (ltOf cf) a b d3):=fun d3 p s'=>by
             obtain⟨x1,x2⟩:=split_done OO.out SPL.out (by omega) (by omega) (by omega) (permIn_refl _ _ _) r4 p s';exact⟨permIn_trans _ _ _ a b PD.out x1,x2⟩
            clear r4;have r3:SortedIn (ltOf cf) mid b d:=by
             rcases Nat.lt_or_ge mid e with c|c
             ·have:e=b:=by omega
              subst this;exact R12.out.1
             ·have:e=mid:=by omega
              subst this;exact R12.out.2
            obtain⟨q7,q8⟩:=FIN.out d (permIn_refl _ _ _) r3;clear r3;have Q:Aside (PermIn a b d d∧SortedIn (ltOf cf) a b d):=⟨q7,q8⟩
            clear q7 q8
            try go_wp2
            go_end0;exact⟨rfl,_,Q.out.1,Q.out.2,S1.out⟩
         ·have hzas: ¬(a:Int)<(s:Int):=by omega
          by_cases hqmide:mid<e
          ·have hzmide:(mid:Int)<(e:Int):=by omega
           by_cases hqeb:e<b
           ·have hzeb:(e:Int)<(b:Int):=by omega
            have hR:Rot s m e d d:=by
             refine⟨rfl,fun t=> ?_⟩;by_cases c1:s≤t∧t<s+(e-m)
             ·rw[if_pos c1];exact at_eq d (by omega)
             ·by_cases c2:s+(e-m)≤t∧t<e
              ·rw[if_neg c1,if_pos c2];exact at_eq d (by omega)
              ·rw[if_neg c1,if_neg c2]
            have SPL:Aside _:=HSP.out d hR;have PD:Aside (PermIn a b d d):=permIn_refl _ _ _;clear hR;have R12:Aside (SortedIn (ltOf cf) mid e d∧SortedIn (ltOf cf) e b d):=⟨SPL.out.r1,SPL.out.r2⟩
            have r4:SortedIn (ltOf cf) a mid d:=by
             rcases Nat.lt_or_ge a s with c|c
             ·have:s=mid:=by omega
              subst this;exact SPL.out.l1
             ·have:s=a:=by omega
              subst this;exact SPL.out.l2
            have FIN:Aside (∀d3,PermIn mid b d d3→SortedIn (ltOf cf) mid b d3→PermIn a b d d3∧SortedIn (ltOf cf) a b d3):=fun d3 p s'=>by
             obtain⟨x1,x2⟩:=split_done OO.out SPL.out (by omega) (by omega) (by omega) (permIn_refl _ _ _) r4 p s';exact⟨permIn_trans _ _ _ a b PD.out x1,x2⟩
            clear r4;have hc3:=IH.out mid e b d _ (by omega) (by omega) S1.out (by omega) (by omega) (by omega) (by omega) R12.out.1 R12.out.2
            first
            |(go_wp2_with (go_at_call 96;refine hc3.mono ?_;rintro e w3 ⟨rfl,d3,q5,q6,S7⟩))
            |(go_wp2;refine hc3.mono ?_;rintro e w3 ⟨rfl,d3,q5,q6,S7⟩)
            try go_wp2
            go_end0;obtain⟨q7,q8⟩:=FIN.out d3 q5 q6;exact⟨rfl,d3,q7,q8,S7⟩
           ·have hzeb: ¬(e:Int)<(b:Int):=by omega
            have hR:Rot s m e d d:=by
             refine⟨rfl,fun t=> ?_⟩;by_cases c1:s≤t∧t<s+(e-m)
             ·rw[if_pos c1];exact at_eq d (by omega)
             ·by_cases c2:s+(e-m)≤t∧t<e
              ·rw[if_neg c1,if_pos c2];exact at_eq d (by omega)
              ·rw[if_neg c1,if_neg c2]
            have SPL:Aside _:=HSP.out d hR;have PD:Aside (PermIn a b d d):=permIn_refl _ _ _;clear hR;have R12:Aside (SortedIn (ltOf cf) mid e d∧SortedIn (ltOf cf) e b d):=⟨SPL.out.r1,SPL.out.r2⟩
            have r4:SortedIn (ltOf cf) a mid d:=by
             rcases Nat.lt_or_ge a s with c|c
             ·have:s=mid:=by omega
              subst this;exact SPL.out.l1
             ·have:s=a:=by omega
              subst this;exact SPL.out.l2
            have FIN:Aside (∀d3,PermIn mid b d d3→SortedIn (ltOf cf) mid b d3→PermIn a b d d3∧SortedIn (ltOf cf) a b d3):=fun d3 p s'=>by
             obtain⟨x1,x2⟩:=split_done OO.out SPL.out (by omega) (by omega) (by omega) (permIn_refl _ _ _) r4 p s';exact⟨permIn_trans _ _ _ a b PD.out x1,x2⟩
            clear r4;have r3:SortedIn (ltOf cf) mid b d:=by
             rcases Nat.lt_or_ge mid e with c|c
             ·have:e=b:=by omega
              subst this;exact R12.out.1
             ·have:e=mid:=by omega
              subst this;exact R12.out.2
            obtain⟨q7,q8⟩:=FIN.out d (permIn_refl _ _ _) r3;clear r3;have Q:Aside (PermIn a b d d∧SortedIn (ltOf cf) a b d):=⟨q7,q8⟩
            clear q7 q8
            try go_wp2
            go_end0;exact⟨rfl,_,Q.out.1,Q.out.2,S1.out⟩
          ·have hzmide: ¬(mid:Int)<(e:Int):=by omega
           have hR:Rot s m e d d:=by
            refine⟨rfl,fun t=> ?_⟩;by_cases c1:s≤t∧t<s+(e-m)
            ·rw[if_pos c1];exact at_eq d (by omega)
            ·by_cases c2:s+(e-m)≤t∧t<e
             ·rw[if_neg c1,if_pos c2];exact at_eq d (by omega)
             ·rw[if_neg c1,if_neg c2]
           have SPL:Aside _:=HSP.out d hR;have PD:Aside (PermIn a b d d):=permIn_refl _ _ _;clear hR;have R12:Aside (SortedIn (ltOf cf) mid e d∧SortedIn (ltOf cf) e b d):=⟨SPL.out.r1,SPL.out.r2⟩
           have r4:SortedIn (ltOf cf) a mid d:=by
            rcases Nat.lt_or_ge a s with c|c
            ·have:s=mid:=by omega
             subst this;exact SPL.out.l1
            ·have:s=a:=by omega
             subst this;exact SPL.out.l2
           have FIN:Aside (∀d3,PermIn mid b d d3→SortedIn (ltOf cf) mid b d3→PermIn a b d d3∧SortedIn (ltOf cf) a b d3):=fun d3 p s'=>by
            obtain⟨x1,x2⟩:=split_done OO.out SPL.out (by omega) (by omega) (by omega) (permIn_refl _ _ _) r4 p s';exact⟨permIn_trans _ _ _ a b PD.out x1,x2⟩
           clear r4;have r3:SortedIn (ltOf cf) mid b d:=by
            rcases Nat.lt_or_ge mid e with c|c
            ·have:e=b:=by omega
             subst this;exact R12.out.1
            ·have:e=mid:=by omega
             subst this;exact R12.out.2
           obtain⟨q7,q8⟩:=FIN.out d (permIn_refl _ _ _) r3;clear r3;have Q:Aside (PermIn a b d d∧SortedIn (ltOf cf) a b d):=⟨q7,q8⟩
           clear q7 q8
           try go_wp2
           go_end0;exact⟨rfl,_,Q.out.1,Q.out.2,S1.out⟩
       ·have hzsm: ¬(s:Int)<(m:Int):=by omega
        by_cases hqas:a<s
        ·have hzas:(a:Int)<(s:Int):=by omega
         by_cases hqsmid:s<mid
         ·have hzsmid:(s:Int)<(mid:Int):=by omega
          by_cases hqmide:mid<e
          ·have hzmide:(mid:Int)<(e:Int):=by omega
           by_cases hqeb:e<b
           ·have hzeb:(e:Int)<(b:Int):=by omega
            have hR:Rot s m e d d:=by
             refine⟨rfl,fun t=> ?_⟩;by_cases c1:s≤t∧t<s+(e-m)
             ·rw[if_pos c1];exact at_eq d (by omega)
             ·by_cases c2:s+(e-m)≤t∧t<e
              ·rw[if_neg c1,if_pos c2];exact at_eq d (by omega)
              ·rw[if_neg c1,if_neg c2]
            have SPL:Aside _:=HSP.out d hR;have PD:Aside (PermIn a b d d):=permIn_refl _ _ _;clear hR;have hc2:=IH.out a s mid d _ (by omega) (by omega) S1.out (by omega) (by omega) (by omega) (by omega) SPL.out.l1 SPL.out.l2
            first
            |(go_wp2_with (go_at_call 96;refine hc2.mono ?_;rintro e w2 ⟨rfl,d2,q3,q4,S4⟩))
            |(go_wp2;refine hc2.mono ?_;rintro e w2 ⟨rfl,d2,q3,q4,S4⟩)
            have S6:Aside (SWK enc k w0 blk off d2 w2):=S4;clear S4 hc2;have hzd2:d2.size=d.size:=by have:=q3.1;omega
            have R12:Aside (SortedIn (ltOf cf) mid e d2∧SortedIn (ltOf cf) e b d2):=⟨SortedIn.same SPL.out.r1 (fun t h _=>q3.2.1 t (Or.inr h)),SortedIn.same SPL.out.r2 (fun t h _=>q3.2.1 t (Or.inr (by omega)))⟩
            have FIN:Aside (∀d3,PermIn mid b d2 d3→SortedIn (ltOf cf) mid b d3→PermIn a b d d3∧SortedIn (ltOf cf) a b d3):=fun d3 p s'=>by
             obtain⟨x1,x2⟩:=split_done OO.out SPL.out (by omega) (by omega) (by omega) q3 q4 p s';exact⟨permIn_trans _ _ _ a b PD.out x1,x2⟩
            clear q3 q4;have hc3:=IH.out mid e b d2 _ (by omega) (by omega) S6.out (by omega) (by omega) (by omega) (by omega) R12.out.1 R12.out.2;rw[hzd2] at hc3
            first
            |(go_wp2_with (go_at_call 96;refine hc3.mono ?_;rintro e w3 ⟨rfl,d3,q5,q6,S7⟩))
            |(go_wp2;refine hc3.mono ?_;rintro e w3 ⟨rfl,d3,q5,q6,S7⟩)
            try go_wp2
            go_end0;obtain⟨q7,q8⟩:=FIN.out d3 q5 q6;exact⟨rfl,d3,q7,q8,S7⟩
           ·have hzeb: ¬(e:Int)<(b:Int):=by omega
            have hR:Rot s m e d d:=by
             refine⟨rfl,fun t=> ?_⟩;by_cases c1:s≤t∧t<s+(e-m)
             ·rw[if_pos c1];exact at_eq d (by omega)
             ·by_cases c2:s+(e-m)≤t∧t<e
              ·rw[if_neg c1,if_pos c2];exact at_eq d (by omega)
              ·rw[if_neg c1,if_neg c2]
            have SPL:Aside _:=HSP.out d hR;have PD:Aside (PermIn a b d d):=permIn_refl _ _ _;clear hR;have hc2:=IH.out a s mid d _ (by omega) (by omega) S1.out (by omega) (by omega) (by omega) (by omega) SPL.out.l1 SPL.out.l2
            first
            |(go_wp2_with (go_at_call 96;refine hc2.mono ?_;rintro e w2 ⟨rfl,d2,q3,q4,S4⟩))
            |(go_wp2;refine hc2.mono ?_;rintro e w2 ⟨rfl,d2,q3,q4,S4⟩)
            have S6:Aside (SWK enc k w0 blk off d2 w2):=S4;clear S4 hc2;have hzd2:d2.size=d.size:=by have:=q3.1;omega
            have R12:Aside (SortedIn (ltOf cf) mid e d2∧SortedIn (ltOf cf) e b d2):=⟨SortedIn.same SPL.out.r1 (fun t h _=>q3.2.1 t (Or.inr h)),SortedIn.same SPL.out.r2 (fun t h _=>q3.2.1 t (Or.inr (by omega)))⟩
            have FIN:Aside (∀d3,PermIn mid b d2 d3→SortedIn (ltOf cf) mid b d3→PermIn a b d d3∧SortedIn (ltOf cf) a b d3):=fun d3 p s'=>by
             obtain⟨x1,x2⟩:=split_done OO.out SPL.out (by omega) (by omega) (by omega) q3 q4 p s';exact⟨permIn_trans _ _ _ a b PD.out x1,x2⟩
            clear q3 q4;have r3:SortedIn (ltOf cf) mid b d2:=by
             rcases Nat.lt_or_ge mid e with c|c
             ·have:e=b:=by omega
              subst this;exact R12.out.1
             ·have:e=mid:=by omega
              subst this;exact R12.out.2
            obtain⟨q7,q8⟩:=FIN.out d2 (permIn_refl _ _ _) r3;clear r3;have Q:Aside (PermIn a b d d2∧SortedIn (ltOf cf) a b d2):=⟨q7,q8⟩
            clear q7 q8
            try go_wp2
            go_end0;exact⟨rfl,_,Q.out.1,Q.out.2,S6.out⟩
          ·have hzmide: ¬(mid:Int)<(e:Int):=by omega
           have hR:Rot s m e d d:=by
            refine⟨rfl,fun t=> ?_⟩;by_cases c1:s≤t∧t<s+(e-m)
            ·rw[if_pos c1];exact at_eq d (by omega)
            ·by_cases c2:s+(e-m)≤t∧t<e
             ·rw[if_neg c1,if_pos c2];exact at_eq d (by omega)
             ·rw[if_neg c1,if_neg c2]
           have SPL:Aside _:=HSP.out d hR;have PD:Aside (PermIn a b d d):=permIn_refl _ _ _;clear hR;have hc2:=IH.out a s mid d _ (by omega) (by omega) S1.out (by omega) (by omega) (by omega) (by omega) SPL.out.l1 SPL.out.l2
           first
           |(go_wp2_with (go_at_call 96;refine hc2.mono ?_;rintro e w2 ⟨rfl,d2,q3,q4,S4⟩))
           |(go_wp2;refine hc2.mono ?_;rintro e w2 ⟨rfl,d2,q3,q4,S4⟩)
           have S6:Aside (SWK enc k w0 blk off d2 w2):=S4;clear S4 hc2;have hzd2:d2.size=d.size:=by have:=q3.1;omega
           have R12:Aside (SortedIn (ltOf cf) mid e d2∧SortedIn (ltOf cf) e b d2):=⟨SortedIn.same SPL.out.r1 (fun t h _=>q3.2.1 t (Or.inr h)),SortedIn.same SPL.out.r2 (fun t h _=>q3.2.1 t (Or.inr (by omega)))⟩
           have FIN:Aside (∀d3,PermIn mid b d2 d3→SortedIn (ltOf cf) mid b d3→PermIn a b d d3∧SortedIn (ltOf cf) a b d3):=fun d3 p s'=>by
            obtain⟨x1,x2⟩:=split_done OO.out SPL.out (by omega) (by omega) (by omega) q3 q4 p s';exact⟨permIn_trans _ _ _ a b PD.out x1,x2⟩
           clear q3 q4;have r3:SortedIn (ltOf cf) mid b d2:=by
            rcases Nat.lt_or_ge mid e with c|c
            ·have:e=b:=by omega
             subst this;exact R12.out.1
            ·have:e=mid:=by omega
             subst this;exact R12.out.2
           obtain⟨q7,q8⟩:=FIN.out d2 (permIn_refl _ _ _) r3;clear r3;have Q:Aside (PermIn a b d d2∧SortedIn (ltOf cf) a b d2):=⟨q7,q8⟩
           clear q7 q8
           try go_wp2
           go_end0;exact⟨rfl,_,Q.out.1,Q.out.2,S6.out⟩
         ·have hzsmid: ¬(s:Int)<(mid:Int):=by omega
          by_cases hqmide:mid<e
          ·have hzmide:(mid:Int)<(e:Int):=by omega
           by_cases hqeb:e<b
           ·have hzeb:(e:Int)<(b:Int):=by omega
            have hR:Rot s m e d d:=by
             refine⟨rfl,fun t=> ?_⟩;by_cases c1:s≤t∧t<s+(e-m)
             ·rw[if_pos c1];exact at_eq d (by omega)
             ·by_cases c2:s+(e-m)≤t∧t<e
              ·rw[if_neg c1,if_pos c2];exact at_eq d (by omega)
              ·rw[if_neg c1,if_neg c2]
            have SPL:Aside _:=HSP.out d hR;have PD:Aside (PermIn a b d d):=permIn_refl _ _ _;clear hR;have R12:Aside (SortedIn (ltOf cf) mid e d∧SortedIn (ltOf cf) e b d):=⟨SPL.out.r1,SPL.out.r2⟩
            have r4:SortedIn (ltOf cf) a mid d:=by
             rcases Nat.lt_or_ge a s with c|c
             ·have:s=mid:=by omega
              subst this;exact SPL.out.l1
             ·have:s=a:=by omega
              subst this;exact SPL.out.l2
            have FIN:Aside (∀d3,PermIn mid b d d3→SortedIn (ltOf cf) mid b d3→PermIn a b d d3∧SortedIn (ltOf cf) a b d3):=fun d3 p s'=>by
             obtain⟨x1,x2⟩:=split_done OO.out SPL.out (by omega) (by omega) (by omega) (permIn_refl _ _ _) r4 p s';exact⟨permIn_trans _ _ _ a b PD.out x1,x2⟩
            clear r4;have hc3:=IH.out mid e b d _ (by omega) (by omega) S1.out (by omega) (by omega) (by omega) (by omega) R12.out.1 R12.out.2
            first
            |(go_wp2_with (go_at_call 96;refine hc3.mono ?_;rintro e w3 ⟨rfl,d3,q5,q6,S7⟩))
            |(go_wp2;refine hc3.mono ?_;rintro e w3 ⟨rfl,d3,q5,q6,S7⟩)
            try go_wp2
            go_end0;obtain⟨q7,q8⟩:=FIN.out d3 q5 q6;exact⟨rfl,d3,q7,q8,S7⟩
           ·have hzeb: ¬(e:Int)<(b:Int):=by omega
            have hR:Rot s m e d d:=by
             refine⟨rfl,fun t=> ?_⟩;by_cases c1:s≤t∧t<s+(e-m)
             ·rw[if_pos c1];exact at_eq d (by omega)
             ·by_cases c2:s+(e-m)≤t∧t<e
              ·rw[if_neg c1,if_pos c2];exact at_eq d (by omega)
              ·rw[if_neg c1,if_neg c2]
            have SPL:Aside _:=HSP.out d hR;have PD:Aside (PermIn a b d d):=permIn_refl _ _ _;clear hR;have R12:Aside (SortedIn (ltOf cf) mid e d∧SortedIn (ltOf cf) e b d):=⟨SPL.out.r1,SPL.out.r2⟩
            have r4:SortedIn (ltOf cf) a mid d:=by
             rcases Nat.lt_or_ge a s with c|c
             ·have:s=mid:=by omega
              subst this;exact SPL.out.l1
             ·have:s=a:=by omega
              subst this;exact SPL.out.l2
            have FIN:Aside (∀d3,PermIn mid b d d3→SortedIn (ltOf cf) mid b d3→PermIn a b d d3∧SortedIn (ltOf cf) a b d3):=fun d3 p s'=>by
             obtain⟨x1,x2⟩:=split_done OO.out SPL.out (by omega) (by omega) (by omega) (permIn_refl _ _ _) r4 p s';exact⟨permIn_trans _ _ _ a b PD.out x1,x2⟩
            clear r4;have r3:SortedIn (ltOf cf) mid b d:=by
             rcases Nat.lt_or_ge mid e with c|c
             ·have:e=b:=by omega
              subst this;exact R12.out.1
             ·have:e=mid:=by omega
              subst this;exact R12.out.2
            obtain⟨q7,q8⟩:=FIN.out d (permIn_refl _ _ _) r3;clear r3;have Q:Aside (PermIn a b d d∧SortedIn (ltOf cf) a b d):=⟨q7,q8⟩
            clear q7 q8
            try go_wp2
            go_end0;exact⟨rfl,_,Q.out.1,Q.out.2,S1.out⟩
          ·have hzmide: ¬(mid:Int)<(e:Int):=by omega
           have hR:Rot s m e d d:=by
            refine⟨rfl,fun t=> ?_⟩;by_cases c1:s≤t∧t<s+(e-m)
            ·rw[if_pos c1];exact at_eq d (by omega)
            ·by_cases c2:s+(e-m)≤t∧t<e
             ·rw[if_neg c1,if_pos c2];exact at_eq d (by omega)
             ·rw[if_neg c1,if_neg c2]
           have SPL:Aside _:=HSP.out d hR;have PD:Aside (PermIn a b d d):=permIn_refl _ _ _;clear hR;have R12:Aside (SortedIn (ltOf cf) mid e d∧SortedIn (ltOf cf) e b d):=⟨SPL.out.r1,SPL.out.r2⟩
           have r4:SortedIn (ltOf cf) a mid d:=by
            rcases Nat.lt_or_ge a s with c|c
            ·have:s=mid:=by omega
             subst this;exact SPL.out.l1
            ·have:s=a:=by omega
             subst this;exact SPL.out.l2
           have FIN:Aside (∀d3,PermIn mid b d d3→SortedIn (ltOf cf) mid b d3→PermIn a b d d3∧SortedIn (ltOf cf) a b d3):=fun d3 p s'=>by
            obtain⟨x1,x2⟩:=split_done OO.out SPL.out (by omega) (by omega) (by omega) (permIn_refl _ _ _) r4 p s';exact⟨permIn_trans _ _ _ a b PD.out x1,x2⟩
           clear r4;have r3:SortedIn (ltOf cf) mid b d:=by
            rcases Nat.lt_or_ge mid e with c|c
            ·have:e=b:=by omega
             subst this;exact R12.out.1
            ·have:e=mid:=by omega
             subst this;exact R12.out.2
           obtain⟨q7,q8⟩:=FIN.out d (permIn_refl _ _ _) r3;clear r3;have Q:Aside (PermIn a b d d∧SortedIn (ltOf cf) a b d):=⟨q7,q8⟩
           clear q7 q8
           try go_wp2
           go_end0;exact⟨rfl,_,Q.out.1,Q.out.2,S1.out⟩
        ·have hzas: ¬(a:Int)<(s:Int):=by omega
         by_cases hqmide:mid<e
         ·have hzmide:(mid:Int)<(e:Int):=by omega
          by_cases hqeb:e<b
          ·have hzeb:(e:Int)<(b:Int):=by omega
           have hR:Rot s m e d d:=by
            refine⟨rfl,fun t=> ?_⟩;by_cases c1:s≤t∧t<s+(e-m)
            ·rw[if_pos c1];exact at_eq d (by omega)
            ·by_cases c2:s+(e-m)≤t∧t<e
             ·rw[if_neg c1,if_pos c2];exact at_eq d (by omega)
             ·rw[if_neg c1,if_neg c2]
           have SPL:Aside _:=HSP.out d hR;have PD:Aside (PermIn a b d d):=permIn_refl _ _ _;clear hR;have R12:Aside (SortedIn (ltOf cf) mid e d∧SortedIn (ltOf cf) e b d):=⟨SPL.out.r1,SPL.out.r2⟩
           have r4:SortedIn (ltOf cf) a mid d:=by
            rcases Nat.lt_or_ge a s with c|c
            ·have:s=mid:=by omega
             subst this;exact SPL.out.l1
            ·have:s=a:=by omega
             subst this;exact SPL.out.l2
           have FIN:Aside (∀d3,PermIn mid b d d3→SortedIn (ltOf cf) mid b d3→PermIn a b d d3∧SortedIn (ltOf cf) a b d3):=fun d3 p s'=>by
            obtain⟨x1,x2⟩:=split_done OO.out SPL.out (by omega) (by omega) (by omega) (permIn_refl _ _ _) r4 p s';exact⟨permIn_trans _ _ _ a b PD.out x1,x2⟩
           clear r4;have hc3:=IH.out mid e b d _ (by omega) (by omega) S1.out (by omega) (by omega) (by omega) (by omega) R12.out.1 R12.out.2
           first
           |(go_wp2_with (go_at_call 96;refine hc3.mono ?_;rintro e w3 ⟨rfl,d3,q5,q6,S7⟩))
           |(go_wp2;refine hc3.mono ?_;rintro e w3 ⟨rfl,d3,q5,q6,S7⟩)
           try go_wp2
           go_end0;obtain⟨q7,q8⟩:=FIN.out d3 q5 q6;exact⟨rfl,d3,q7,q8,S7⟩
          ·have hzeb: ¬(e:Int)<(b:Int):=by omega
           have hR:Rot s m e d d:=by
            refine⟨rfl,fun t=> ?_⟩;by_cases c1:s≤t∧t<s+(e-m)
            ·rw[if_pos c1];exact at_eq d (by omega)
            ·by_cases c2:s+(e-m)≤t∧t<e
             ·rw[if_neg c1,if_pos c2];exact at_eq d (by omega)
             ·rw[if_neg c1,if_neg c2]
           have SPL:Aside _:=HSP.out d hR;have PD:Aside (PermIn a b d d):=permIn_refl _ _ _;clear hR;have R12:Aside (SortedIn (ltOf cf) mid e d∧SortedIn (ltOf cf) e b d):=⟨SPL.out.r1,SPL.out.r2⟩
           have r4:SortedIn (ltOf cf) a mid d:=by
            rcases Nat.lt_or_ge a s with c|c
            ·have:s=mid:=by omega
             subst this;exact SPL.out.l1
            ·have:s=a:=by omega
             subst this;exact SPL.out.l2
           have FIN:Aside (∀d3,PermIn mid b d d3→SortedIn (ltOf cf) mid b d3→PermIn a b d d3∧SortedIn (ltOf cf) a b d3):=fun d3 p s'=>by
            obtain⟨x1,x2⟩:=split_done OO.out SPL.out (by omega) (by omega) (by omega) (permIn_refl _ _ _) r4 p s';exact⟨permIn_trans _ _ _ a b PD.out x1,x2⟩
           clear r4;have r3:SortedIn (ltOf cf) mid b d:=by
            rcases Nat.lt_or_ge mid e with c|c
            ·have:e=b:=by omega
             subst this;exact R12.out.1
            ·have:e=mid:=by omega
             subst this;exact R12.out.2
           obtain⟨q7,q8⟩:=FIN.out d (permIn_refl _ _ _) r3;clear r3;have Q:Aside (PermIn a b d d∧SortedIn (ltOf cf) a b d):=⟨q7,q8⟩
           clear q7 q8
           try go_wp2
           go_end0;exact⟨rfl,_,Q.out.1,Q.out.2,S1.out⟩
         ·have hzmide: ¬(mid:Int)<(e:Int):=by omega
          have hR:Rot s m e d d:=by
           refine⟨rfl,fun t=> ?_⟩;by_cases c1:s≤t∧t<s+(e-m)
           ·rw[if_pos c1];exact at_eq d (by omega)
           ·by_cases c2:s+(e-m)≤t∧t<e
            ·rw[if_neg c1,if_pos c2];exact at_eq d (by omega)
            ·rw[if_neg c1,if_neg c2]
          have SPL:Aside _:=HSP.out d hR;have PD:Aside (PermIn a b d d):=permIn_refl _ _ _;clear hR;have R12:Aside (SortedIn (ltOf cf) mid e d∧SortedIn (ltOf cf) e b d):=⟨SPL.out.r1,SPL.out.r2⟩
          have r4:SortedIn (ltOf cf) a mid d:=by
           rcases Nat.lt_or_ge a s with c|c
           ·have:s=mid:=by omega
            subst this;exact SPL.out.l1
           ·have:s=a:=by omega
            subst this;exact SPL.out.l2
          have FIN:Aside (∀d3,PermIn mid b d d3→SortedIn (ltOf cf) mid b d3→PermIn a b d d3∧SortedIn (ltOf cf) a b d3):=fun d3 p s'=>by
           obtain⟨x1,x2⟩:=split_done OO.out SPL.out (by omega) (by omega) (by omega) (permIn_refl _ _ _) r4 p s';exact⟨permIn_trans _ _ _ a b PD.out x1,x2⟩
          clear r4;have r3:SortedIn (ltOf cf) mid b d:=by
           rcases Nat.lt_or_ge mid e with c|c
           ·have:e=b:=by omega
            subst this;exact R12.out.1
           ·have:e=mid:=by omega
            subst this;exact R12.out.2
          obtain⟨q7,q8⟩:=FIN.out d (permIn_refl _ _ _) r3;clear r3;have Q:Aside (PermIn a b d d∧SortedIn (ltOf cf) a b d):=⟨q7,q8⟩
          clear q7 q8
          try go_wp2
          go_end0;exact⟨rfl,_,Q.out.1,Q.out.2,S1.out⟩
    ·have zside: ¬(mid:Int)<(m:Int):=by omega
     obtain⟨lo,hlo⟩: ∃q:Nat,q=a:=⟨_,rfl⟩
     obtain⟨r0,hr0⟩: ∃q:Nat,q=m:=⟨_,rfl⟩
     have hl1:a≤lo:=by omega
     have hl2:lo≤r0:=by omega
     have hl3:r0≤m:=by omega
     have hl4:mid+m≤b+lo:=by omega
     have hl5:r0≤mid:=by omega
     have LO:Aside (lo=a∧r0=m):=⟨hlo,hr0⟩
     clear hlo hr0;go_wp2;generalize ((m:Int)- (a:Int)==1)=bq1;generalize ((b:Int)- (m:Int)==1)=bq2;generalize decide ((mid:Int)<(m:Int))=bq3;go_loopg [20,21] (r0-lo) (fun kx s20 s21 wr=> ∃s r:Nat,s20= .int .i64 s∧s21= .int .i64 r∧lo≤s∧s≤r∧r≤r0∧r-s≤kx∧Aside (SWK enc k w0 blk off d wr)∧Aside ((∀t,lo≤t→t<s→(ltOf cf) d[mid+m-1-t]! d[t]! =false)∧(∀t,r≤t→t<r0→(ltOf cf) d[mid+m-1-t]! d[t]! =true)))
     case atStart=>exact⟨lo,r0,by first|(rw[LO.out.1];done)|(rw[LO.out.1];first|rfl|(congr 1;omega)),by rw[LO.out.2],Nat.le_refl _,hl2,Nat.le_refl _,by omega,S0,⟨fun t h h'=>absurd h' (by omega),fun t h h'=>absurd h' (by omega)⟩⟩
     case round=>
      clear S0;obtain⟨s,r,rfl,rfl,hls,hsr,hrr,hkx,S1,I⟩:=hrel;by_cases hlt:s<r
      ·have hltz:(s:Int)<(r:Int):=by omega
       obtain⟨h,hh⟩: ∃h:Nat,h=(s+r)/ 2:=⟨_,rfl⟩
       have zh:((s:Int)+(r:Int))/ 2=(h:Int):=by omega
       have hh1:s≤h:=by omega
       have hh2:h<r:=by omega
       clear hh;obtain⟨pc,hpc⟩: ∃q:Nat,q=mid+m-1-h:=⟨_,rfl⟩
       have zpc:(mid:Int)+(m:Int)-1- (h:Int)=(pc:Int):=by omega
       have hp1:m≤pc:=by omega
       have hp2:pc<b:=by omega
       have zw:IntKind.i64.wrap (pc:Int)=(pc:Int):=by rw[IntKind.wrap_i64];omega
       have zw2:IntKind.i64.wrap ((mid:Int)+(m:Int)-1- (h:Int))=(pc:Int):=by rw[IntKind.wrap_i64];omega
       have PC:Aside (pc=mid+m-1-h):=hpc;clear hpc;have ph:(h:Int)<(d.size:Int):=by omega
       have pp:(pc:Int)<(d.size:Int):=by omega
       go_wp2_with fail;obtain⟨vx,hvx⟩: ∃v,v=d[pc]! :=⟨_,rfl⟩
       obtain⟨vy,hvy⟩: ∃v,v=d[h]! :=⟨_,rfl⟩
       have lda:=S1.out.ld R (by omega) P (pc) (by omega);have ldb:=S1.out.ld R (by omega) P (h) (by omega);rw[←hvx] at lda;rw[←hvy] at ldb;have hcc:=S1.out.cmp HC.out (by omega) vx vy;have XV:Aside (vx=d[pc]! ∧vy=d[h]!):=⟨hvx,hvy⟩
       clear hvx hvy;by_cases hlv:cf vx vy<0
       ·have hd:decide (cf vx vy<0)=true:=decide_eq_true hlv;go_wp2_with fail;go_quiet_grown (first|(go_at_fn g;refine Calls.grown_of (hcc _ _)));have S2:Aside (SWK enc k w0 blk off d (grow (wr.drewN nq) osq)):=S1.out.grown nq osq;clear lda ldb hcc S1;generalize grow (wr.drewN nq) osq=w2 at S2 ⊢;clear nq osq;go_wp2;go_roundg (h-s)
        case measure=>omega
        case rel=>exact⟨s,h,rfl,by first|rfl|go_num|(congr 1;omega),hls,by omega,by omega,Nat.le_refl _,S2,⟨I.out.1,fun t h1 h2=>by
         have hx:(ltOf cf) d[pc]! d[h]! =true:=by rw[←XV.out.1,←XV.out.2];exact hd
         have hq:=PC.out;have hy:=keep_dn OO.out A1.out (show a≤h by omega) h1 (show t<m by omega) hx;exact keep_lt OO.out A2.out (show m≤mid+m-1-t by omega) (show mid+m-1-t≤pc by omega) hp2 hy⟩⟩
       ·have hd:decide (cf vx vy<0)=false:=decide_eq_false hlv;go_wp2_with fail;go_quiet_grown (first|(go_at_fn g;refine Calls.grown_of (hcc _ _)));have S2:Aside (SWK enc k w0 blk off d (grow (wr.drewN nq) osq)):=S1.out.grown nq osq;clear lda ldb hcc S1;generalize grow (wr.drewN nq) osq=w2 at S2 ⊢;clear nq osq;go_wp2;go_roundg (r- (h+1))
        case measure=>omega
        case rel=>exact⟨h+1,r,by first|rfl|go_num|(congr 1;omega),rfl,by omega,by omega,hrr,Nat.le_refl _,S2,⟨fun t h1 h2=>by
         have hx:(ltOf cf) d[pc]! d[h]! =false:=by rw[←XV.out.1,←XV.out.2];exact hd
         have hq:=PC.out;have hy:=keep_up OO.out A1.out (show a≤t by omega) (show t≤h by omega) (by omega) hx;exact keep_ge OO.out A2.out hp1 (show pc≤mid+m-1-t by omega) (by omega) hy,I.out.2⟩⟩
      ·obtain rfl:s=r:=by omega
       have hltz: ¬(s:Int)<(s:Int):=by omega
       obtain⟨e,he⟩: ∃q:Nat,q=mid+m-s:=⟨_,rfl⟩
       have ze:(mid:Int)+(m:Int)- (s:Int)=(e:Int):=by omega
       have he1:m≤e:=by omega
       have he2:e≤b:=by omega
       have hsm:s≤m:=by omega
       have hsp: ∀d1,Rot s m e d d1→Split (ltOf cf) a s mid e b d1:=fun d1 hr=>by
        refine split_of OO.out A1.out A2.out (by omega) hsm he1 he2 (by omega) hr (fun t u h1 h2 h3 h4=> ?_) (fun t u h1 h2 h3 h4=> ?_)
        ·have hL:=LO.out;have hx:=I.out.1 (s-1) (by omega) (by omega);rw[show mid+m-1- (s-1)=e by omega] at hx;exact keep_ge OO.out A2.out he1 h3 h4 (keep_up OO.out A1.out h1 (show t≤s-1 by omega) (by omega) hx)
        ·have hL:=LO.out;have hx:=I.out.2 s (Nat.le_refl _) (by omega);rw[show mid+m-1-s=e-1 by omega] at hx;have hy:=keep_lt OO.out A2.out h1 (show t≤e-1 by omega) (by omega) hx;exact SWO.asymmA OO.out (keep_dn OO.out A1.out (by omega) h3 h4 hy)
       have HSP:Aside _:=hsp;clear hsp;have HE:Aside (e=mid+m-s):=he;clear he;have hbs:s≤mid:=by omega
       have hme:mid≤e:=by omega
       clear LO I;by_cases hqsm:s<m
       ·have hzsm:(s:Int)<(m:Int):=by omega
        by_cases hqme:m<e
        ·have hzme:(m:Int)<(e:Int):=by omega
         by_cases hqas:a<s
         ·have hzas:(a:Int)<(s:Int):=by omega
          by_cases hqsmid:s<mid
          ·have hzsmid:(s:Int)<(mid:Int):=by omega
           by_cases hqmide:mid<e
           ·have hzmide:(mid:Int)<(e:Int):=by omega
            by_cases hqeb:e<b
            ·have hzeb:(e:Int)<(b:Int):=by omega
             have hc1:=HROT.out s m e d wr (by omega) S1.out (by omega) (by omega) (by omega) (by omega)
             first
             |(go_wp2_with (go_at_call 97;refine hc1.mono ?_;rintro e w1 ⟨rfl,S3⟩))
             |(go_wp2;refine hc1.mono ?_;rintro e w1 ⟨rfl,S3⟩)
             have hR:=rotGo_rot m (e-s) (m-s) (e-m) d (by omega) (by omega) (by omega) (by omega) (by omega);have hPm:=rotGo_perm m a b (e-s) (m-s) (e-m) d (by omega) (by omega) hb (by omega);rw[show m- (m-s)=s by omega,show m+(e-m)=e by omega] at hR;generalize rotGo m (e-s) (m-s) (e-m) d=d1 at hR hPm S3;have S5:Aside (SWK enc k w0 blk off d1 w1):=S3;have SPL:Aside _:=HSP.out d1 hR;have PD:Aside (PermIn a b d d1):=hPm;have hzk:d1.size=d.size:=hR.1;clear S3 hR hPm hc1 S1;have hc2:=IH.out a s mid d1 _ (by omega) (by omega) S5.out (by omega) (by omega) (by omega) (by omega) SPL.out.l1 SPL.out.l2;rw[hzk] at hc2
             first
             |(go_wp2_with (go_at_call 96;refine hc2.mono ?_;rintro e w2 ⟨rfl,d2,q3,q4,S4⟩))
             |(go_wp2;refine hc2.mono ?_;rintro e w2 ⟨rfl,d2,q3,q4,S4⟩)
             have S6:Aside (SWK enc k w0 blk off d2 w2):=S4;clear S4 hc2;have hzd2:d2.size=d.size:=by have:=q3.1;omega
             have R12:Aside (SortedIn (ltOf cf) mid e d2∧SortedIn (ltOf cf) e b d2):=⟨SortedIn.same SPL.out.r1 (fun t h _=>q3.2.1 t (Or.inr h)),SortedIn.same SPL.out.r2 (fun t h _=>q3.2.1 t (Or.inr (by omega)))⟩
             have FIN:Aside (∀d3,PermIn mid b d2 d3→SortedIn (ltOf cf) mid b d3→PermIn a b d d3∧SortedIn (ltOf cf) a b d3):=fun d3 p s'=>by
              obtain⟨x1,x2⟩:=split_done OO.out SPL.out (by omega) (by omega) (by omega) q3 q4 p s';exact⟨permIn_trans _ _ _ a b PD.out x1,x2⟩
             clear q3 q4;have hc3:=IH.out mid e b d2 _ (by omega) (by omega) S6.out (by omega) (by omega) (by omega) (by omega) R12.out.1 R12.out.2;rw[hzd2] at hc3
             first
             |(go_wp2_with (go_at_call 96;refine hc3.mono ?_;rintro e w3 ⟨rfl,d3,q5,q6,S7⟩))
             |(go_wp2;refine hc3.mono ?_;rintro e w3 ⟨rfl,d3,q5,q6,S7⟩)
             try go_wp2
             go_end0;obtain⟨q7,q8⟩:=FIN.out d3 q5 q6;exact⟨rfl,d3,q7,q8,S7⟩
            ·have hzeb: ¬(e:Int)<(b:Int):=by omega
             have hc1:=HROT.out s m e d wr (by omega) S1.out (by omega) (by omega) (by omega) (by omega)
             first
             |(go_wp2_with (go_at_call 97;refine hc1.mono ?_;rintro e w1 ⟨rfl,S3⟩))
             |(go_wp2;refine hc1.mono ?_;rintro e w1 ⟨rfl,S3⟩)
             have hR:=rotGo_rot m (e-s) (m-s) (e-m) d (by omega) (by omega) (by omega) (by omega) (by omega);have hPm:=rotGo_perm m a b (e-s) (m-s) (e-m) d (by omega) (by omega) hb (by omega);rw[show m- (m-s)=s by omega,show m+(e-m)=e by omega] at hR;generalize rotGo m (e-s) (m-s) (e-m) d=d1 at hR hPm S3;have S5:Aside (SWK enc k w0 blk off d1 w1):=S3;have SPL:Aside _:=HSP.out d1 hR;have PD:Aside (PermIn a b d d1):=hPm;have hzk:d1.size=d.size:=hR.1;clear S3 hR hPm hc1 S1;have hc2:=IH.out a s mid d1 _ (by omega) (by omega) S5.out (by omega) (by omega) (by omega) (by omega) SPL.out.l1 SPL.out.l2;rw[hzk] at hc2
             first
             |(go_wp2_with (go_at_call 96;refine hc2.mono ?_;rintro e w2 ⟨rfl,d2,q3,q4,S4⟩))
             |(go_wp2;refine hc2.mono ?_;rintro e w2 ⟨rfl,d2,q3,q4,S4⟩)
             have S6:Aside (SWK enc k w0 blk off d2 w2):=S4;clear S4 hc2;have hzd2:d2.size=d.size:=by have:=q3.1;omega
             have R12:Aside (SortedIn (ltOf cf) mid e d2∧SortedIn (ltOf cf) e b d2):=⟨SortedIn.same SPL.out.r1 (fun t h _=>q3.2.1 t (Or.inr h)),SortedIn.same SPL.out.r2 (fun t h _=>q3.2.1 t (Or.inr (by omega)))⟩
             have FIN:Aside (∀d3,PermIn mid b d2 d3→SortedIn (ltOf cf) mid b d3→PermIn a b d d3∧SortedIn (ltOf cf) a b d3):=fun d3 p s'=>by
              obtain⟨x1,x2⟩:=split_done OO.out SPL.out (by omega) (by omega) (by omega) q3 q4 p s';exact⟨permIn_trans _ _ _ a b PD.out x1,x2⟩
             clear q3 q4;have r3:SortedIn (ltOf cf) mid b d2:=by
              rcases Nat.lt_or_ge mid e with c|c
              ·have:e=b:=by omega
               subst this;exact R12.out.1
              ·have:e=mid:=by omega
               subst this;exact R12.out.2
             obtain⟨q7,q8⟩:=FIN.out d2 (permIn_refl _ _ _) r3;clear r3;have Q:Aside (PermIn a b d d2∧SortedIn (ltOf cf) a b d2):=⟨q7,q8⟩
             clear q7 q8
             try go_wp2
             go_end0;exact⟨rfl,_,Q.out.1,Q.out.2,S6.out⟩
           ·have hzmide: ¬(mid:Int)<(e:Int):=by omega
            have hc1:=HROT.out s m e d wr (by omega) S1.out (by omega) (by omega) (by omega) (by omega)
            first
            |(go_wp2_with (go_at_call 97;refine hc1.mono ?_;rintro e w1 ⟨rfl,S3⟩))
            |(go_wp2;refine hc1.mono ?_;rintro e w1 ⟨rfl,S3⟩)
            have hR:=rotGo_rot m (e-s) (m-s) (e-m) d (by omega) (by omega) (by omega) (by omega) (by omega);have hPm:=rotGo_perm m a b (e-s) (m-s) (e-m) d (by omega) (by omega) hb (by omega);rw[show m- (m-s)=s by omega,show m+(e-m)=e by omega] at hR;generalize rotGo m (e-s) (m-s) (e-m) d=d1 at hR hPm S3;have S5:Aside (SWK enc k w0 blk off d1 w1):=S3;have SPL:Aside _:=HSP.out d1 hR;have PD:Aside (PermIn a b d d1):=hPm;have hzk:d1.size=d.size:=hR.1;clear S3 hR hPm hc1 S1;have hc2:=IH.out a s mid d1 _ (by omega) (by omega) S5.out (by omega) (by omega) (by omega) (by omega) SPL.out.l1 SPL.out.l2;rw[hzk] at hc2
            first
            |(go_wp2_with (go_at_call 96;refine hc2.mono ?_;rintro e w2 ⟨rfl,d2,q3,q4,S4⟩))
            |(go_wp2;refine hc2.mono ?_;rintro e w2 ⟨rfl,d2,q3,q4,S4⟩)
            have S6:Aside (SWK enc k w0 blk off d2 w2):=S4;clear S4 hc2;have hzd2:d2.size=d.size:=by have:=q3.1;omega
            have R12:Aside (SortedIn (ltOf cf) mid e d2∧SortedIn (ltOf cf) e b d2):=⟨SortedIn.same SPL.out.r1 (fun t h _=>q3.2.1 t (Or.inr h)),SortedIn.same SPL.out.r2 (fun t h _=>q3.2.1 t (Or.inr (by omega)))⟩
            have FIN:Aside (∀d3,PermIn mid b d2 d3→SortedIn (ltOf cf) mid b d3→PermIn a b d d3∧SortedIn (ltOf cf) a b d3):=fun d3 p s'=>by
             obtain⟨x1,x2⟩:=split_done OO.out SPL.out (by omega) (by omega) (by omega) q3 q4 p s';exact⟨permIn_trans _ _ _ a b PD.out x1,x2⟩
            clear q3 q4;have r3:SortedIn (ltOf cf) mid b d2:=by
             rcases Nat.lt_or_ge mid e with c|c
             ·have:e=b:=by omega
              subst this;exact R12.out.1
             ·have:e=mid:=by omega
              subst this;exact R12.out.2
            obtain⟨q7,q8⟩:=FIN.out d2 (permIn_refl _ _ _) r3;clear r3;have Q:Aside (PermIn a b d d2∧SortedIn (ltOf cf) a b d2):=⟨q7,q8⟩
            clear q7 q8
            try go_wp2
            go_end0;exact⟨rfl,_,Q.out.1,Q.out.2,S6.out⟩
          ·have hzsmid: ¬(s:Int)<(mid:Int):=by omega
           by_cases hqmide:mid<e
           ·have hzmide:(mid:Int)<(e:Int):=by omega
            by_cases hqeb:e<b
            ·have hzeb:(e:Int)<(b:Int):=by omega
             have hc1:=HROT.out s m e d wr (by omega) S1.out (by omega) (by omega) (by omega) (by omega)
             first
             |(go_wp2_with (go_at_call 97;refine hc1.mono ?_;rintro e w1 ⟨rfl,S3⟩))
             |(go_wp2;refine hc1.mono ?_;rintro e w1 ⟨rfl,S3⟩)
             have hR:=rotGo_rot m (e-s) (m-s) (e-m) d (by omega) (by omega) (by omega) (by omega) (by omega);have hPm:=rotGo_perm m a b (e-s) (m-s) (e-m) d (by omega) (by omega) hb (by omega);rw[show m- (m-s)=s by omega,show m+(e-m)=e by omega] at hR;generalize rotGo m (e-s) (m-s) (e-m) d=d1 at hR hPm S3;have S5:Aside (SWK enc k w0 blk off d1 w1):=S3;have SPL:Aside _:=HSP.out d1 hR;have PD:Aside (PermIn a b d d1):=hPm;have hzk:d1.size=d.size:=hR.1;clear S3 hR hPm hc1 S1;have R12:Aside (SortedIn (ltOf cf) mid e d1∧SortedIn (ltOf cf) e b d1):=⟨SPL.out.r1,SPL.out.r2⟩
             have r4:SortedIn (ltOf cf) a mid d1:=by
              rcases Nat.lt_or_ge a s with c|c
              ·have:s=mid:=by omega
               subst this;exact SPL.out.l1
              ·have:s=a:=by omega
               subst this;exact SPL.out.l2
             have FIN:Aside (∀d3,PermIn mid b d1 d3→SortedIn (ltOf cf) mid b d3→PermIn a b d d3∧SortedIn (ltOf cf) a b d3):=fun d3 p s'=>by
              obtain⟨x1,x2⟩:=split_done OO.out SPL.out (by omega) (by omega) (by omega) (permIn_refl _ _ _) r4 p s';exact⟨permIn_trans _ _ _ a b PD.out x1,x2⟩
             clear r4;have hc3:=IH.out mid e b d1 _ (by omega) (by omega) S5.out (by omega) (by omega) (by omega) (by omega) R12.out.1 R12.out.2;rw[hzk] at hc3
             first
             |(go_wp2_with (go_at_call 96;refine hc3.mono ?_;rintro e w3 ⟨rfl,d3,q5,q6,S7⟩))
             |(go_wp2;refine hc3.mono ?_;rintro e w3 ⟨rfl,d3,q5,q6,S7⟩)
             try go_wp2
             go_end0;obtain⟨q7,q8⟩:=FIN.out d3 q5 q6;exact⟨rfl,d3,q7,q8,S7⟩
            ·have hzeb: ¬(e:Int)<(b:Int):=by omega
             have hc1:=HROT.out s m e d wr (by omega) S1.out (by omega) (by omega) (by omega) (by omega)
             first
             |(go_wp2_with (go_at_call 97;refine hc1.mono ?_;rintro e w1 ⟨rfl,S3⟩))
             |(go_wp2;refine hc1.mono ?_;rintro e w1 ⟨rfl,S3⟩)
             have hR:=rotGo_rot m (e-s) (m-s) (e-m) d (by omega) (by omega) (by omega) (by omega) (by omega);have hPm:=rotGo_perm m a b (e-s) (m-s) (e-m) d (by omega) (by omega) hb (by omega);rw[show m- (m-s)=s by omega,show m+(e-m)=e by omega] at hR;generalize rotGo m (e-s) (m-s) (e-m) d=d1 at hR hPm S3;have S5:Aside (SWK enc k w0 blk off d1 w1):=S3;have SPL:Aside _:=HSP.out d1 hR;have PD:Aside (PermIn a b d d1):=hPm;have hzk:d1.size=d.size:=hR.1;clear S3 hR hPm hc1 S1;have R12:Aside (SortedIn (ltOf cf) mid e d1∧SortedIn (ltOf cf) e b d1):=⟨SPL.out.r1,SPL.out.r2⟩
             have r4:SortedIn (ltOf cf) a mid d1:=by
              rcases Nat.lt_or_ge a s with c|c
              ·have:s=mid:=by omega
               subst this;exact SPL.out.l1
              ·have:s=a:=by omega
               subst this;exact SPL.out.l2
             have FIN:Aside (∀d3,PermIn mid b d1 d3→SortedIn (ltOf cf) mid b d3→PermIn a b d d3∧SortedIn (ltOf cf) a b d3):=fun d3 p s'=>by
              obtain⟨x1,x2⟩:=split_done OO.out SPL.out (by omega) (by omega) (by omega) (permIn_refl _ _ _) r4 p s';exact⟨permIn_trans _ _ _ a b PD.out x1,x2⟩
             clear r4;have r3:SortedIn (ltOf cf) mid b d1:=by
              rcases Nat.lt_or_ge mid e with c|c
              ·have:e=b:=by omega
               subst this;exact R12.out.1
              ·have:e=mid:=by omega
               subst this;exact R12.out.2
             obtain⟨q7,q8⟩:=FIN.out d1 (permIn_refl _ _ _) r3;clear r3;have Q:Aside (PermIn a b d d1∧SortedIn (ltOf cf) a b d1):=⟨q7,q8⟩
             clear q7 q8
             try go_wp2
             go_end0;exact⟨rfl,_,Q.out.1,Q.out.2,S5.out⟩
           ·have hzmide: ¬(mid:Int)<(e:Int):=by omega
            have hc1:=HROT.out s m e d wr (by omega) S1.out (by omega) (by omega) (by omega) (by omega)
            first
            |(go_wp2_with (go_at_call 97;refine hc1.mono ?_;rintro e w1 ⟨rfl,S3⟩))
            |(go_wp2;refine hc1.mono ?_;rintro e w1 ⟨rfl,S3⟩)
            have hR:=rotGo_rot m (e-s) (m-s) (e-m) d (by omega) (by omega) (by omega) (by omega) (by omega);have hPm:=rotGo_perm m a b (e-s) (m-s) (e-m) d (by omega) (by omega) hb (by omega);rw[show m- (m-s)=s by omega,show m+(e-m)=e by omega] at hR;generalize rotGo m (e-s) (m-s) (e-m) d=d1 at hR hPm S3;have S5:Aside (SWK enc k w0 blk off d1 w1):=S3;have SPL:Aside _:=HSP.out d1 hR;have PD:Aside (PermIn a b d d1):=hPm;have hzk:d1.size=d.size:=hR.1;clear S3 hR hPm hc1 S1;have R12:Aside (SortedIn (ltOf cf) mid e d1∧SortedIn (ltOf cf) e b d1):=⟨SPL.out.r1,SPL.out.r2⟩
            have r4:SortedIn (ltOf cf) a mid d1:=by
             rcases Nat.lt_or_ge a s with c|c
             ·have:s=mid:=by omega
              subst this;exact SPL.out.l1
             ·have:s=a:=by omega
              subst this;exact SPL.out.l2
            have FIN:Aside (∀d3,PermIn mid b d1 d3→SortedIn (ltOf cf) mid b d3→PermIn a b d d3∧SortedIn (ltOf cf) a b d3):=fun d3 p s'=>by
             obtain⟨x1,x2⟩:=split_done OO.out SPL.out (by omega) (by omega) (by omega) (permIn_refl _ _ _) r4 p s';exact⟨permIn_trans _ _ _ a b PD.out x1,x2⟩
            clear r4;have r3:SortedIn (ltOf cf) mid b d1:=by
             rcases Nat.lt_or_ge mid e with c|c
             ·have:e=b:=by omega
              subst this;exact R12.out.1
             ·have:e=mid:=by omega
              subst this;exact R12.out.2
            obtain⟨q7,q8⟩:=FIN.out d1 (permIn_refl _ _ _) r3;clear r3;have Q:Aside (PermIn a b d d1∧SortedIn (ltOf cf) a b d1):=⟨q7,q8⟩
            clear q7 q8
            try go_wp2
            go_end0;exact⟨rfl,_,Q.out.1,Q.out.2,S5.out⟩
         ·have hzas: ¬(a:Int)<(s:Int):=by omega
          by_cases hqmide:mid<e
          ·have hzmide:(mid:Int)<(e:Int):=by omega
           by_cases hqeb:e<b
           ·have hzeb:(e:Int)<(b:Int):=by omega
            have hc1:=HROT.out s m e d wr (by omega) S1.out (by omega) (by omega) (by omega) (by omega)
            first
            |(go_wp2_with (go_at_call 97;refine hc1.mono ?_;rintro e w1 ⟨rfl,S3⟩))
            |(go_wp2;refine hc1.mono ?_;rintro e w1 ⟨rfl,S3⟩)
            have hR:=rotGo_rot m (e-s) (m-s) (e-m) d (by omega) (by omega) (by omega) (by omega) (by omega);have hPm:=rotGo_perm m a b (e-s) (m-s) (e-m) d (by omega) (by omega) hb (by omega);rw[show m- (m-s)=s by omega,show m+(e-m)=e by omega] at hR;generalize rotGo m (e-s) (m-s) (e-m) d=d1 at hR hPm S3;have S5:Aside (SWK enc k w0 blk off d1 w1):=S3;have SPL:Aside _:=HSP.out d1 hR;have PD:Aside (PermIn a b d d1):=hPm;have hzk:d1.size=d.size:=hR.1;clear S3 hR hPm hc1 S1;have R12:Aside (SortedIn (ltOf cf) mid e d1∧SortedIn (ltOf cf) e b d1):=⟨SPL.out.r1,SPL.out.r2⟩
            have r4:SortedIn (ltOf cf) a mid d1:=by
             rcases Nat.lt_or_ge a s with c|c
             ·have:s=mid:=by omega
              subst this;exact SPL.out.l1
             ·have:s=a:=by omega
              subst this;exact SPL.out.l2
            have FIN:Aside (∀d3,PermIn mid b d1 d3→SortedIn (ltOf cf) mid b d3→PermIn a b d d3∧SortedIn (ltOf cf) a b d3):=fun d3 p s'=>by
             obtain⟨x1,x2⟩:=split_done OO.out SPL.out (by omega) (by omega) (by omega) (permIn_refl _ _ _) r4 p s';exact⟨permIn_trans _ _ _ a b PD.out x1,x2⟩
            clear r4;have hc3:=IH.out mid e b d1 _ (by omega) (by omega) S5.out (by omega) (by omega) (by omega) (by omega) R12.out.1 R12.out.2;rw[hzk] at hc3
            first
            |(go_wp2_with (go_at_call 96;refine hc3.mono ?_;rintro e w3 ⟨rfl,d3,q5,q6,S7⟩))
            |(go_wp2;refine hc3.mono ?_;rintro e w3 ⟨rfl,d3,q5,q6,S7⟩)
            try go_wp2
            go_end0;obtain⟨q7,q8⟩:=FIN.out d3 q5 q6;exact⟨rfl,d3,q7,q8,S7⟩
           ·have hzeb: ¬(e:Int)<(b:Int):=by omega
            have hc1:=HROT.out s m e d wr (by omega) S1.out (by omega) (by omega) (by omega) (by omega)
            first
            |(go_wp2_with (go_at_call 97;refine hc1.mono ?_;rintro e w1 ⟨rfl,S3⟩))
            |(go_wp2;refine hc1.mono ?_;rintro e w1 ⟨rfl,S3⟩)
            have hR:=rotGo_rot m (e-s) (m-s) (e-m) d (by omega) (by omega) (by omega) (by omega) (by omega);have hPm:=rotGo_perm m a b (e-s) (m-s) (e-m) d (by omega) (by omega) hb (by omega);rw[show m- (m-s)=s by omega,show m+(e-m)=e by omega] at hR;generalize rotGo m (e-s) (m-s) (e-m) d=d1 at hR hPm S3;have S5:Aside (SWK enc k w0 blk off d1 w1):=S3;have SPL:Aside _:=HSP.out d1 hR;have PD:Aside (PermIn a b d d1):=hPm;have hzk:d1.size=d.size:=hR.1;clear S3 hR hPm hc1 S1;have R12:Aside (SortedIn (ltOf cf) mid e d1∧SortedIn (ltOf cf) e b d1):=⟨SPL.out.r1,SPL.out.r2⟩
            have r4:SortedIn (ltOf cf) a mid d1:=by
             rcases Nat.lt_or_ge a s with c|c
             ·have:s=mid:=by omega
              subst this;exact SPL.out.l1
             ·have:s=a:=by omega
              subst this;exact SPL.out.l2
            have FIN:Aside (∀d3,PermIn mid b d1 d3→SortedIn (ltOf cf) mid b d3→PermIn a b d d3∧SortedIn (ltOf cf) a b d3):=fun d3 p s'=>by
             obtain⟨x1,x2⟩:=split_done OO.out SPL.out (by omega) (by omega) (by omega) (permIn_refl _ _ _) r4 p s';exact⟨permIn_trans _ _ _ a b PD.out x1,x2⟩
            clear r4;have r3:SortedIn (ltOf cf) mid b d1:=by
             rcases Nat.lt_or_ge mid e with c|c
             ·have:e=b:=by omega
              subst this;exact R12.out.1
             ·have:e=mid:=by omega
              subst this;exact R12.out.2
            obtain⟨q7,q8⟩:=FIN.out d1 (permIn_refl _ _ _) r3;clear r3;have Q:Aside (PermIn a b d d1∧SortedIn (ltOf cf) a b d1):=⟨q7,q8⟩
            clear q7 q8
            try go_wp2
            go_end0;exact⟨rfl,_,Q.out.1,Q.out.2,S5.out⟩
          ·have hzmide: ¬(mid:Int)<(e:Int):=by omega
           have hc1:=HROT.out s m e d wr (by omega) S1.out (by omega) (by omega) (by omega) (by omega)
           first
           |(go_wp2_with (go_at_call 97;refine hc1.mono ?_;rintro e w1 ⟨rfl,S3⟩))
           |(go_wp2;refine hc1.mono ?_;rintro e w1 ⟨rfl,S3⟩)
           have hR:=rotGo_rot m (e-s) (m-s) (e-m) d (by omega) (by omega) (by omega) (by omega) (by omega);have hPm:=rotGo_perm m a b (e-s) (m-s) (e-m) d (by omega) (by omega) hb (by omega);rw[show m- (m-s)=s by omega,show m+(e-m)=e by omega] at hR;generalize rotGo m (e-s) (m-s) (e-m) d=d1 at hR hPm S3;have S5:Aside (SWK enc k w0 blk off d1 w1):=S3;have SPL:Aside _:=HSP.out d1 hR;have PD:Aside (PermIn a b d d1):=hPm;have hzk:d1.size=d.size:=hR.1;clear S3 hR hPm hc1 S1;have R12:Aside (SortedIn (ltOf cf) mid e d1∧SortedIn (ltOf cf) e b d1):=⟨SPL.out.r1,SPL.out.r2⟩
           have r4:SortedIn (ltOf cf) a mid d1:=by
            rcases Nat.lt_or_ge a s with c|c
            ·have:s=mid:=by omega
             subst this;exact SPL.out.l1
            ·have:s=a:=by omega
             subst this;exact SPL.out.l2
           have FIN:Aside (∀d3,PermIn mid b d1 d3→SortedIn (ltOf cf) mid b d3→PermIn a b d d3∧SortedIn (ltOf cf) a b d3):=fun d3 p s'=>by
            obtain⟨x1,x2⟩:=split_done OO.out SPL.out (by omega) (by omega) (by omega) (permIn_refl _ _ _) r4 p s';exact⟨permIn_trans _ _ _ a b PD.out x1,x2⟩
           clear r4;have r3:SortedIn (ltOf cf) mid b d1:=by
            rcases Nat.lt_or_ge mid e with c|c
            ·have:e=b:=by omega
             subst this;exact R12.out.1
            ·have:e=mid:=by omega
             subst this;exact R12.out.2
           obtain⟨q7,q8⟩:=FIN.out d1 (permIn_refl _ _ _) r3;clear r3;have Q:Aside (PermIn a b d d1∧SortedIn (ltOf cf) a b d1):=⟨q7,q8⟩
           clear q7 q8
           try go_wp2
           go_end0;exact⟨rfl,_,Q.out.1,Q.out.2,S5.out⟩
        ·have hzme: ¬(m:Int)<(e:Int):=by omega
         by_cases hqas:a<s
         ·have hzas:(a:Int)<(s:Int):=by omega
          by_cases hqsmid:s<mid
          ·have hzsmid:(s:Int)<(mid:Int):=by omega
           by_cases hqmide:mid<e
           ·have hzmide:(mid:Int)<(e:Int):=by omega
            by_cases hqeb:e<b
            ·have hzeb:(e:Int)<(b:Int):=by omega
             have hR:Rot s m e d d:=by
              refine⟨rfl,fun t=> ?_⟩;by_cases c1:s≤t∧t<s+(e-m)
              ·rw[if_pos c1];exact at_eq d (by omega)
              ·by_cases c2:s+(e-m)≤t∧t<e
               ·rw[if_neg c1,if_pos c2];exact at_eq d (by omega)
               ·rw[if_neg c1,if_neg c2]
             have SPL:Aside _:=HSP.out d hR;have PD:Aside (PermIn a b d d):=permIn_refl _ _ _;clear hR;have hc2:=IH.out a s mid d _ (by omega) (by omega) S1.out (by omega) (by omega) (by omega) (by omega) SPL.out.l1 SPL.out.l2
             first
             |(go_wp2_with (go_at_call 96;refine hc2.mono ?_;rintro e w2 ⟨rfl,d2,q3,q4,S4⟩))
             |(go_wp2;refine hc2.mono ?_;rintro e w2 ⟨rfl,d2,q3,q4,S4⟩)
             have S6:Aside (SWK enc k w0 blk off d2 w2):=S4;clear S4 hc2;have hzd2:d2.size=d.size:=by have:=q3.1;omega
             have R12:Aside (SortedIn (ltOf cf) mid e d2∧SortedIn (ltOf cf) e b d2):=⟨SortedIn.same SPL.out.r1 (fun t h _=>q3.2.1 t (Or.inr h)),SortedIn.same SPL.out.r2 (fun t h _=>q3.2.1 t (Or.inr (by omega)))⟩
             have FIN:Aside (∀d3,PermIn mid b d2 d3→SortedIn (ltOf cf) mid b d3→PermIn a b d d3∧SortedIn (ltOf cf) a b d3):=fun d3 p s'=>by
              obtain⟨x1,x2⟩:=split_done OO.out SPL.out (by omega) (by omega) (by omega) q3 q4 p s';exact⟨permIn_trans _ _ _ a b PD.out x1,x2⟩
             clear q3 q4;have hc3:=IH.out mid e b d2 _ (by omega) (by omega) S6.out (by omega) (by omega) (by omega) (by omega) R12.out.1 R12.out.2;rw[hzd2] at hc3
             first
             |(go_wp2_with (go_at_call 96;refine hc3.mono ?_;rintro e w3 ⟨rfl,d3,q5,q6,S7⟩))
             |(go_wp2;refine hc3.mono ?_;rintro e w3 ⟨rfl,d3,q5,q6,S7⟩)
             try go_wp2
             go_end0;obtain⟨q7,q8⟩:=FIN.out d3 q5 q6;exact⟨rfl,d3,q7,q8,S7⟩
            ·have hzeb: ¬(e:Int)<(b:Int):=by omega
             have hR:Rot s m e d d:=by
              refine⟨rfl,fun t=> ?_⟩;by_cases c1:s≤t∧t<s+(e-m)
              ·rw[if_pos c1];exact at_eq d (by omega)
              ·by_cases c2:s+(e-m)≤t∧t<e
               ·rw[if_neg c1,if_pos c2];exact at_eq d (by omega)
               ·rw[if_neg c1,if_neg c2]
             have SPL:Aside _:=HSP.out d hR;have PD:Aside (PermIn a b d d):=permIn_refl _ _ _;clear hR;have hc2:=IH.out a s mid d _ (by omega) (by omega) S1.out (by omega) (by omega) (by omega) (by omega) SPL.out.l1 SPL.out.l2
             first
             |(go_wp2_with (go_at_call 96;refine hc2.mono ?_;rintro e w2 ⟨rfl,d2,q3,q4,S4⟩))
             |(go_wp2;refine hc2.mono ?_;rintro e w2 ⟨rfl,d2,q3,q4,S4⟩)
             have S6:Aside (SWK enc k w0 blk off d2 w2):=S4;clear S4 hc2;have hzd2:d2.size=d.size:=by have:=q3.1;omega
             have R12:Aside (SortedIn (ltOf cf) mid e d2∧SortedIn (ltOf cf) e b d2):=⟨SortedIn.same SPL.out.r1 (fun t h _=>q3.2.1 t (Or.inr h)),SortedIn.same SPL.out.r2 (fun t h _=>q3.2.1 t (Or.inr (by omega)))⟩
             have FIN:Aside (∀d3,PermIn mid b d2 d3→SortedIn (ltOf cf) mid b d3→PermIn a b d d3∧SortedIn (ltOf cf) a b d3):=fun d3 p s'=>by
              obtain⟨x1,x2⟩:=split_done OO.out SPL.out (by omega) (by omega) (by omega) q3 q4 p s';exact⟨permIn_trans _ _ _ a b PD.out x1,x2⟩
             clear q3 q4;have r3:SortedIn (ltOf cf) mid b d2:=by
              rcases Nat.lt_or_ge mid e with c|c
              ·have:e=b:=by omega
               subst this;exact R12.out.1
              ·have:e=mid:=by omega
               subst this;exact R12.out.2
             obtain⟨q7,q8⟩:=FIN.out d2 (permIn_refl _ _ _) r3;clear r3;have Q:Aside (PermIn a b d d2∧SortedIn (ltOf cf) a b d2):=⟨q7,q8⟩
             clear q7 q8
             try go_wp2
             go_end0;exact⟨rfl,_,Q.out.1,Q.out.2,S6.out⟩
           ·have hzmide: ¬(mid:Int)<(e:Int):=by omega
            have hR:Rot s m e d d:=by
             refine⟨rfl,fun t=> ?_⟩;by_cases c1:s≤t∧t<s+(e-m)
             ·rw[if_pos c1];exact at_eq d (by omega)
             ·by_cases c2:s+(e-m)≤t∧t<e
              ·rw[if_neg c1,if_pos c2];exact at_eq d (by omega)
              ·rw[if_neg c1,if_neg c2]
            have SPL:Aside _:=HSP.out d hR;have PD:Aside (PermIn a b d d):=permIn_refl _ _ _;clear hR;have hc2:=IH.out a s mid d _ (by omega) (by omega) S1.out (by omega) (by omega) (by omega) (by omega) SPL.out.l1 SPL.out.l2
            first
            |(go_wp2_with (go_at_call 96;refine hc2.mono ?_;rintro e w2 ⟨rfl,d2,q3,q4,S4⟩))
            |(go_wp2;refine hc2.mono ?_;rintro e w2 ⟨rfl,d2,q3,q4,S4⟩)
            have S6:Aside (SWK enc k w0 blk off d2 w2):=S4;clear S4 hc2;have hzd2:d2.size=d.size:=by have:=q3.1;omega
            have R12:Aside (SortedIn (ltOf cf) mid e d2∧SortedIn (ltOf cf) e b d2):=⟨SortedIn.same SPL.out.r1 (fun t h _=>q3.2.1 t (Or.inr h)),SortedIn.same SPL.out.r2 (fun t h _=>q3.2.1 t (Or.inr (by omega)))⟩
            have FIN:Aside (∀d3,PermIn mid b d2 d3→SortedIn (ltOf cf) mid b d3→PermIn a b d d3∧SortedIn (ltOf cf) a b d3):=fun d3 p s'=>by
             obtain⟨x1,x2⟩:=split_done OO.out SPL.out (by omega) (by omega) (by omega) q3 q4 p s';exact⟨permIn_trans _ _ _ a b PD.out x1,x2⟩
            clear q3 q4;have r3:SortedIn (ltOf cf) mid b d2:=by
             rcases Nat.lt_or_ge mid e with c|c
             ·have:e=b:=by omega
              subst this;exact R12.out.1
             ·have:e=mid:=by omega
              subst this;exact R12.out.2
            obtain⟨q7,q8⟩:=FIN.out d2 (permIn_refl _ _ _) r3;clear r3;have Q:Aside (PermIn a b d d2∧SortedIn (ltOf cf) a b d2):=⟨q7,q8⟩
            clear q7 q8
            try go_wp2
            go_end0;exact⟨rfl,_,Q.out.1,Q.out.2,S6.out⟩
          ·have hzsmid: ¬(s:Int)<(mid:Int):=by omega
           by_cases hqmide:mid<e
           ·have hzmide:(mid:Int)<(e:Int):=by omega
            by_cases hqeb:e<b
            ·have hzeb:(e:Int)<(b:Int):=by omega
             have hR:Rot s m e d d:=by
              refine⟨rfl,fun t=> ?_⟩;by_cases c1:s≤t∧t<s+(e-m)
              ·rw[if_pos c1];exact at_eq d (by omega)
              ·by_cases c2:s+(e-m)≤t∧t<e
               ·rw[if_neg c1,if_pos c2];exact at_eq d (by omega)
               ·rw[if_neg c1,if_neg c2]
             have SPL:Aside _:=HSP.out d hR;have PD:Aside (PermIn a b d d):=permIn_refl _ _ _;clear hR;have R12:Aside (SortedIn (ltOf cf) mid e d∧SortedIn (ltOf cf) e b d):=⟨SPL.out.r1,SPL.out.r2⟩
             have r4:SortedIn (ltOf cf) a mid d:=by
              rcases Nat.lt_or_ge a s with c|c
              ·have:s=mid:=by omega
               subst this;exact SPL.out.l1
              ·have:s=a:=by omega
               subst this;exact SPL.out.l2
             have FIN:Aside (∀d3,PermIn mid b d d3→SortedIn (ltOf cf) mid b d3→PermIn a b d d3∧SortedIn (ltOf cf) a b d3):=fun d3 p s'=>by
              obtain⟨x1,x2⟩:=split_done OO.out SPL.out (by omega) (by omega) (by omega) (permIn_refl _ _ _) r4 p s';exact⟨permIn_trans _ _ _ a b PD.out x1,x2⟩
             clear r4;have hc3:=IH.out mid e b d _ (by omega) (by omega) S1.out (by omega) (by omega) (by omega) (by omega) R12.out.1 R12.out.2
             first
             |(go_wp2_with (go_at_call 96;refine hc3.mono ?_;rintro e w3 ⟨rfl,d3,q5,q6,S7⟩))
             |(go_wp2;refine hc3.mono ?_;rintro e w3 ⟨rfl,d3,q5,q6,S7⟩)
             try go_wp2
             go_end0;obtain⟨q7,q8⟩:=FIN.out d3 q5 q6;exact⟨rfl,d3,q7,q8,S7⟩
            ·have hzeb: ¬(e:Int)<(b:Int):=by omega
             have hR:Rot s m e d d:=by
              refine⟨rfl,fun t=> ?_⟩;by_cases c1:s≤t∧t<s+(e-m)
              ·rw[if_pos c1];exact at_eq d (by omega)
              ·by_cases c2:s+(e-m)≤t∧t<e
               ·rw[if_neg c1,if_pos c2];exact at_eq d (by omega)
               ·rw[if_neg c1,if_neg c2]
             have SPL:Aside _:=HSP.out d hR;have PD:Aside (PermIn a b d d):=permIn_refl _ _ _;clear hR;have R12:Aside (SortedIn (ltOf cf) mid e d∧SortedIn (ltOf cf) e b d):=⟨SPL.out.r1,SPL.out.r2⟩
             have r4:SortedIn (ltOf cf) a mid d:=by
              rcases Nat.lt_or_ge a s with c|c
              ·have:s=mid:=by omega
               subst this;exact SPL.out.l1
              ·have:s=a:=by omega
               subst this;exact SPL.out.l2
             have FIN:Aside (∀d3,PermIn mid b d d3→SortedIn (ltOf cf) mid b d3→PermIn a b d d3∧SortedIn (ltOf cf) a b d3):=fun d3 p s'=>by
              obtain⟨x1,x2⟩:=split_done OO.out SPL.out (by omega) (by omega) (by omega) (permIn_refl _ _ _) r4 p s';exact⟨permIn_trans _ _ _ a b PD.out x1,x2⟩
             clear r4;have r3:SortedIn (ltOf cf) mid b d:=by
              rcases Nat.lt_or_ge mid e with c|c
              ·have:e=b:=by omega
               subst this;exact R12.out.1
              ·have:e=mid:=by omega
               subst this;exact R12.out.2
             obtain⟨q7,q8⟩:=FIN.out d (permIn_refl _ _ _) r3;clear r3;have Q:Aside (PermIn a b d d∧SortedIn (ltOf cf) a b d):=⟨q7,q8⟩
             clear q7 q8
             try go_wp2
             go_end0;exact⟨rfl,_,Q.out.1,Q.out.2,S1.out⟩
           ·have hzmide: ¬(mid:Int)<(e:Int):=by omega
            have hR:Rot s m e d d:=by
             refine⟨rfl,fun t=> ?_⟩;by_cases c1:s≤t∧t<s+(e-m)
             ·rw[if_pos c1];exact at_eq d (by omega)
             ·by_cases c2:s+(e-m)≤t∧t<e
              ·rw[if_neg c1,if_pos c2];exact at_eq d (by omega)
              ·rw[if_neg c1,if_neg c2]
            have SPL:Aside _:=HSP.out d hR;have PD:Aside (PermIn a b d d):=permIn_refl _ _ _;clear hR;have R12:Aside (SortedIn (ltOf cf) mid e d∧SortedIn (ltOf cf) e b d):=⟨SPL.out.r1,SPL.out.r2⟩
            have r4:SortedIn (ltOf cf) a mid d:=by
             rcases Nat.lt_or_ge a s with c|c
             ·have:s=mid:=by omega
              subst this;exact SPL.out.l1
             ·have:s=a:=by omega
              subst this;exact SPL.out.l2
            have FIN:Aside (∀d3,PermIn mid b d d3→SortedIn (ltOf cf) mid b d3→PermIn a b d d3∧SortedIn (ltOf cf) a b d3):=fun d3 p s'=>by
             obtain⟨x1,x2⟩:=split_done OO.out SPL.out (by omega) (by omega) (by omega) (permIn_refl _ _ _) r4 p s';exact⟨permIn_trans _ _ _ a b PD.out x1,x2⟩
            clear r4;have r3:SortedIn (ltOf cf) mid b d:=by
             rcases Nat.lt_or_ge mid e with c|c
             ·have:e=b:=by omega
              subst this;exact R12.out.1
             ·have:e=mid:=by omega
              subst this;exact R12.out.2
            obtain⟨q7,q8⟩:=FIN.out d (permIn_refl _ _ _) r3;clear r3;have Q:Aside (PermIn a b d d∧SortedIn (ltOf cf) a b d):=⟨q7,q8⟩
            clear q7 q8
            try go_wp2
            go_end0;exact⟨rfl,_,Q.out.1,Q.out.2,S1.out⟩
         ·have hzas: ¬(a:Int)<(s:Int):=by omega
          by_cases hqmide:mid<e
          ·have hzmide:(mid:Int)<(e:Int):=by omega
           by_cases hqeb:e<b
           ·have hzeb:(e:Int)<(b:Int):=by omega
            have hR:Rot s m e d d:=by
             refine⟨rfl,fun t=> ?_⟩;by_cases c1:s≤t∧t<s+(e-m)
             ·rw[if_pos c1];exact at_eq d (by omega)
             ·by_cases c2:s+(e-m)≤t∧t<e
              ·rw[if_neg c1,if_pos c2];exact at_eq d (by omega)
              ·rw[if_neg c1,if_neg c2]
            have SPL:Aside _:=HSP.out d hR;have PD:Aside (PermIn a b d d):=permIn_refl _ _ _;clear hR;have R12:Aside (SortedIn (ltOf cf) mid e d∧SortedIn (ltOf cf) e b d):=⟨SPL.out.r1,SPL.out.r2⟩
            have r4:SortedIn (ltOf cf) a mid d:=by
             rcases Nat.lt_or_ge a s with c|c
             ·have:s=mid:=by omega
              subst this;exact SPL.out.l1
             ·have:s=a:=by omega
              subst this;exact SPL.out.l2
            have FIN:Aside (∀d3,PermIn mid b d d3→SortedIn (ltOf cf) mid b d3→PermIn a b d d3∧SortedIn (ltOf cf) a b d3):=fun d3 p s'=>by
             obtain⟨x1,x2⟩:=split_done OO.out SPL.out (by omega) (by omega) (by omega) (permIn_refl _ _ _) r4 p s';exact⟨permIn_trans _ _ _ a b PD.out x1,x2⟩
            clear r4;have hc3:=IH.out mid e b d _ (by omega) (by omega) S1.out (by omega) (by omega) (by omega) (by omega) R12.out.1 R12.out.2
            first
            |(go_wp2_with (go_at_call 96;refine hc3.mono ?_;rintro e w3 ⟨rfl,d3,q5,q6,S7⟩))
            |(go_wp2;refine hc3.mono ?_;rintro e w3 ⟨rfl,d3,q5,q6,S7⟩)
            try go_wp2
            go_end0;obtain⟨q7,q8⟩:=FIN.out d3 q5 q6;exact⟨rfl,d3,q7,q8,S7⟩
           ·have hzeb: ¬(e:Int)<(b:Int):=by omega
            have hR:Rot s m e d d:=by
             refine⟨rfl,fun t=> ?_⟩;by_cases c1:s≤t∧t<s+(e-m)
             ·rw[if_pos c1];exact at_eq d (by omega)
             ·by_cases c2:s+(e-m)≤t∧t<e
              ·rw[if_neg c1,if_pos c2];exact at_eq d (by omega)
              ·rw[if_neg c1,if_neg c2]
            have SPL:Aside _:=HSP.out d hR;have PD:Aside (PermIn a b d d):=permIn_refl _ _ _;clear hR;have R12:Aside (SortedIn (ltOf cf) mid e d∧SortedIn (ltOf cf) e b d):=⟨SPL.out.r1,SPL.out.r2⟩
            have r4:SortedIn (ltOf cf) a mid d:=by
             rcases Nat.lt_or_ge a s with c|c
             ·have:s=mid:=by omega
              subst this;exact SPL.out.l1
             ·have:s=a:=by omega
              subst this;exact SPL.out.l2
            have FIN:Aside (∀d3,PermIn mid b d d3→SortedIn (ltOf cf) mid b d3→PermIn a b d d3∧SortedIn (ltOf cf) a b d3):=fun d3 p s'=>by
             obtain⟨x1,x2⟩:=split_done OO.out SPL.out (by omega) (by omega) (by omega) (permIn_refl _ _ _) r4 p s';exact⟨permIn_trans _ _ _ a b PD.out x1,x2⟩
            clear r4;have r3:SortedIn (ltOf cf) mid b d:=by
             rcases Nat.lt_or_ge mid e with c|c
             ·have:e=b:=by omega
              subst this;exact R12.out.1
             ·have:e=mid:=by omega
              subst this;exact R12.out.2
            obtain⟨q7,q8⟩:=FIN.out d (permIn_refl _ _ _) r3;clear r3;have Q:Aside (PermIn a b d d∧SortedIn (ltOf cf) a b d):=⟨q7,q8⟩
            clear q7 q8
            try go_wp2
            go_end0;exact⟨rfl,_,Q.out.1,Q.out.2,S1.out⟩
          ·have hzmide: ¬(mid:Int)<(e:Int):=by omega
           have hR:Rot s m e d d:=by
            refine⟨rfl,fun t=> ?_⟩;by_cases c1:s≤t∧t<s+(e-m)
            ·rw[if_pos c1];exact at_eq d (by omega)
            ·by_cases c2:s+(e-m)≤t∧t<e
             ·rw[if_neg c1,if_pos c2];exact at_eq d (by omega)
             ·rw[if_neg c1,if_neg c2]
           have SPL:Aside _:=HSP.out d hR;have PD:Aside (PermIn a b d d):=permIn_refl _ _ _;clear hR;have R12:Aside (SortedIn (ltOf cf) mid e d∧SortedIn (ltOf cf) e b d):=⟨SPL.out.r1,SPL.out.r2⟩
           have r4:SortedIn (ltOf cf) a mid d:=by
            rcases Nat.lt_or_ge a s with c|c
            ·have:s=mid:=by omega
             subst this;exact SPL.out.l1
            ·have:s=a:=by omega
             subst this;exact SPL.out.l2
           have FIN:Aside (∀d3,PermIn mid b d d3→SortedIn (ltOf cf) mid b d3→PermIn a b d d3∧SortedIn (ltOf cf) a b d3):=fun d3 p s'=>by
            obtain⟨x1,x2⟩:=split_done OO.out SPL.out (by omega) (by omega) (by omega) (permIn_refl _ _ _) r4 p s';exact⟨permIn_trans _ _ _ a b PD.out x1,x2⟩
           clear r4;have r3:SortedIn (ltOf cf) mid b d:=by
            rcases Nat.lt_or_ge mid e with c|c
            ·have:e=b:=by omega
             subst this;exact R12.out.1
            ·have:e=mid:=by omega
             subst this;exact R12.out.2
           obtain⟨q7,q8⟩:=FIN.out d (permIn_refl _ _ _) r3;clear r3;have Q:Aside (PermIn a b d d∧SortedIn (ltOf cf) a b d):=⟨q7,q8⟩
           clear q7 q8
           try go_wp2
           go_end0;exact⟨rfl,_,Q.out.1,Q.out.2,S1.out⟩
       ·have hzsm: ¬(s:Int)<(m:Int):=by omega
        by_cases hqas:a<s
        ·have hzas:(a:Int)<(s:Int):=by omega
         by_cases hqsmid:s<mid
         ·have hzsmid:(s:Int)<(mid:Int):=by omega
          by_cases hqmide:mid<e
          ·have hzmide:(mid:Int)<(e:Int):=by omega
           by_cases hqeb:e<b
           ·have hzeb:(e:Int)<(b:Int):=by omega
            have hR:Rot s m e d d:=by
             refine⟨rfl,fun t=> ?_⟩;by_cases c1:s≤t∧t<s+(e-m)
             ·rw[if_pos c1];exact at_eq d (by omega)
             ·by_cases c2:s+(e-m)≤t∧t<e
              ·rw[if_neg c1,if_pos c2];exact at_eq d (by omega)
              ·rw[if_neg c1,if_neg c2]
            have SPL:Aside _:=HSP.out d hR;have PD:Aside (PermIn a b d d):=permIn_refl _ _ _;clear hR;have hc2:=IH.out a s mid d _ (by omega) (by omega) S1.out (by omega) (by omega) (by omega) (by omega) SPL.out.l1 SPL.out.l2
            first
            |(go_wp2_with (go_at_call 96;refine hc2.mono ?_;rintro e w2 ⟨rfl,d2,q3,q4,S4⟩))
            |(go_wp2;refine hc2.mono ?_;rintro e w2 ⟨rfl,d2,q3,q4,S4⟩)
            have S6:Aside (SWK enc k w0 blk off d2 w2):=S4;clear S4 hc2;have hzd2:d2.size=d.size:=by have:=q3.1;omega
            have R12:Aside (SortedIn (ltOf cf) mid e d2∧SortedIn (ltOf cf) e b d2):=⟨SortedIn.same SPL.out.r1 (fun t h _=>q3.2.1 t (Or.inr h)),SortedIn.same SPL.out.r2 (fun t h _=>q3.2.1 t (Or.inr (by omega)))⟩
            have FIN:Aside (∀d3,PermIn mid b d2 d3→SortedIn (ltOf cf) mid b d3→PermIn a b d d3∧SortedIn (ltOf cf) a b d3):=fun d3 p s'=>by
             obtain⟨x1,x2⟩:=split_done OO.out SPL.out (by omega) (by omega) (by omega) q3 q4 p s';exact⟨permIn_trans _ _ _ a b PD.out x1,x2⟩
            clear q3 q4;have hc3:=IH.out mid e b d2 _ (by omega) (by omega) S6.out (by omega) (by omega) (by omega) (by omega) R12.out.1 R12.out.2;rw[hzd2] at hc3
            first
            |(go_wp2_with (go_at_call 96;refine hc3.mono ?_;rintro e w3 ⟨rfl,d3,q5,q6,S7⟩))
            |(go_wp2;refine hc3.mono ?_;rintro e w3 ⟨rfl,d3,q5,q6,S7⟩)
            try go_wp2
            go_end0;obtain⟨q7,q8⟩:=FIN.out d3 q5 q6;exact⟨rfl,d3,q7,q8,S7⟩
           ·have hzeb: ¬(e:Int)<(b:Int):=by omega
            have hR:Rot s m e d d:=by
             refine⟨rfl,fun t=> ?_⟩;by_cases c1:s≤t∧t<s+(e-m)
             ·rw[if_pos c1];exact at_eq d (by omega)
             ·by_cases c2:s+(e-m)≤t∧t<e
              ·rw[if_neg c1,if_pos c2];exact at_eq d (by omega)
              ·rw[if_neg c1,if_neg c2]
            have SPL:Aside _:=HSP.out d hR;have PD:Aside (PermIn a b d d):=permIn_refl _ _ _;clear hR;have hc2:=IH.out a s mid d _ (by omega) (by omega) S1.out (by omega) (by omega) (by omega) (by omega) SPL.out.l1 SPL.out.l2
            first
            |(go_wp2_with (go_at_call 96;refine hc2.mono ?_;rintro e w2 ⟨rfl,d2,q3,q4,S4⟩))
            |(go_wp2;refine hc2.mono ?_;rintro e w2 ⟨rfl,d2,q3,q4,S4⟩)
            have S6:Aside (SWK enc k w0 blk off d2 w2):=S4;clear S4 hc2;have hzd2:d2.size=d.size:=by have:=q3.1;omega
            have R12:Aside (SortedIn (ltOf cf) mid e d2∧SortedIn (ltOf cf) e b d2):=⟨SortedIn.same SPL.out.r1 (fun t h _=>q3.2.1 t (Or.inr h)),SortedIn.same SPL.out.r2 (fun t h _=>q3.2.1 t (Or.inr (by omega)))⟩
            have FIN:Aside (∀d3,PermIn mid b d2 d3→SortedIn (ltOf cf) mid b d3→PermIn a b d d3∧SortedIn (ltOf cf) a b d3):=fun d3 p s'=>by
             obtain⟨x1,x2⟩:=split_done OO.out SPL.out (by omega) (by omega) (by omega) q3 q4 p s';exact⟨permIn_trans _ _ _ a b PD.out x1,x2⟩
            clear q3 q4;have r3:SortedIn (ltOf cf) mid b d2:=by
             rcases Nat.lt_or_ge mid e with c|c
             ·have:e=b:=by omega
              subst this;exact R12.out.1
             ·have:e=mid:=by omega
              subst this;exact R12.out.2
            obtain⟨q7,q8⟩:=FIN.out d2 (permIn_refl _ _ _) r3;clear r3;have Q:Aside (PermIn a b d d2∧SortedIn (ltOf cf) a b d2):=⟨q7,q8⟩
            clear q7 q8
            try go_wp2
            go_end0;exact⟨rfl,_,Q.out.1,Q.out.2,S6.out⟩
          ·have hzmide: ¬(mid:Int)<(e:Int):=by omega
           have hR:Rot s m e d d:=by
            refine⟨rfl,fun t=> ?_⟩;by_cases c1:s≤t∧t<s+(e-m)
            ·rw[if_pos c1];exact at_eq d (by omega)
            ·by_cases c2:s+(e-m)≤t∧t<e
             ·rw[if_neg c1,if_pos c2];exact at_eq d (by omega)
             ·rw[if_neg c1,if_neg c2]
           have SPL:Aside _:=HSP.out d hR;have PD:Aside (PermIn a b d d):=permIn_refl _ _ _;clear hR;have hc2:=IH.out a s mid d _ (by omega) (by omega) S1.out (by omega) (by omega) (by omega) (by omega) SPL.out.l1 SPL.out.l2
           first
           |(go_wp2_with (go_at_call 96;refine hc2.mono ?_;rintro e w2 ⟨rfl,d2,q3,q4,S4⟩))
           |(go_wp2;refine hc2.mono ?_;rintro e w2 ⟨rfl,d2,q3,q4,S4⟩)
           have S6:Aside (SWK enc k w0 blk off d2 w2):=S4;clear S4 hc2;have hzd2:d2.size=d.size:=by have:=q3.1;omega
           have R12:Aside (SortedIn (ltOf cf) mid e d2∧SortedIn (ltOf cf) e b d2):=⟨SortedIn.same SPL.out.r1 (fun t h _=>q3.2.1 t (Or.inr h)),SortedIn.same SPL.out.r2 (fun t h _=>q3.2.1 t (Or.inr (by omega)))⟩
           have FIN:Aside (∀d3,PermIn mid b d2 d3→SortedIn (ltOf cf) mid b d3→PermIn a b d d3∧SortedIn (ltOf cf) a b d3):=fun d3 p s'=>by
            obtain⟨x1,x2⟩:=split_done OO.out SPL.out (by omega) (by omega) (by omega) q3 q4 p s';exact⟨permIn_trans _ _ _ a b PD.out x1,x2⟩
           clear q3 q4;have r3:SortedIn (ltOf cf) mid b d2:=by
            rcases Nat.lt_or_ge mid e with c|c
            ·have:e=b:=by omega
             subst this;exact R12.out.1
            ·have:e=mid:=by omega
             subst this;exact R12.out.2
           obtain⟨q7,q8⟩:=FIN.out d2 (permIn_refl _ _ _) r3;clear r3;have Q:Aside (PermIn a b d d2∧SortedIn (ltOf cf) a b d2):=⟨q7,q8⟩
           clear q7 q8
           try go_wp2
           go_end0;exact⟨rfl,_,Q.out.1,Q.out.2,S6.out⟩
         ·have hzsmid: ¬(s:Int)<(mid:Int):=by omega
          by_cases hqmide:mid<e
          ·have hzmide:(mid:Int)<(e:Int):=by omega
           by_cases hqeb:e<b
           ·have hzeb:(e:Int)<(b:Int):=by omega
            have hR:Rot s m e d d:=by
             refine⟨rfl,fun t=> ?_⟩;by_cases c1:s≤t∧t<s+(e-m)
             ·rw[if_pos c1];exact at_eq d (by omega)
             ·by_cases c2:s+(e-m)≤t∧t<e
              ·rw[if_neg c1,if_pos c2];exact at_eq d (by omega)
              ·rw[if_neg c1,if_neg c2]
            have SPL:Aside _:=HSP.out d hR;have PD:Aside (PermIn a b d d):=permIn_refl _ _ _;clear hR;have R12:Aside (SortedIn (ltOf cf) mid e d∧SortedIn (ltOf cf) e b d):=⟨SPL.out.r1,SPL.out.r2⟩
            have r4:SortedIn (ltOf cf) a mid d:=by
             rcases Nat.lt_or_ge a s with c|c
             ·have:s=mid:=by omega
              subst this;exact SPL.out.l1
             ·have:s=a:=by omega
              subst this;exact SPL.out.l2
            have FIN:Aside (∀d3,PermIn mid b d d3→SortedIn (ltOf cf) mid b d3→PermIn a b d d3∧SortedIn (ltOf cf) a b d3):=fun d3 p s'=>by
             obtain⟨x1,x2⟩:=split_done OO.out SPL.out (by omega) (by omega) (by omega) (permIn_refl _ _ _) r4 p s';exact⟨permIn_trans _ _ _ a b PD.out x1,x2⟩
            clear r4;have hc3:=IH.out mid e b d _ (by omega) (by omega) S1.out (by omega) (by omega) (by omega) (by omega) R12.out.1 R12.out.2
            first
            |(go_wp2_with (go_at_call 96;refine hc3.mono ?_;rintro e w3 ⟨rfl,d3,q5,q6,S7⟩))
            |(go_wp2;refine hc3.mono ?_;rintro e w3 ⟨rfl,d3,q5,q6,S7⟩)
            try go_wp2
            go_end0;obtain⟨q7,q8⟩:=FIN.out d3 q5 q6;exact⟨rfl,d3,q7,q8,S7⟩
           ·have hzeb: ¬(e:Int)<(b:Int):=by omega
            have hR:Rot s m e d d:=by
             refine⟨rfl,fun t=> ?_⟩;by_cases c1:s≤t∧t<s+(e-m)
             ·rw[if_pos c1];exact at_eq d (by omega)
             ·by_cases c2:s+(e-m)≤t∧t<e
              ·rw[if_neg c1,if_pos c2];exact at_eq d (by omega)
              ·rw[if_neg c1,if_neg c2]
            have SPL:Aside _:=HSP.out d hR;have PD:Aside (PermIn a b d d):=permIn_refl _ _ _;clear hR;have R12:Aside (SortedIn (ltOf cf) mid e d∧SortedIn (ltOf cf) e b d):=⟨SPL.out.r1,SPL.out.r2⟩
            have r4:SortedIn (ltOf cf) a mid d:=by
             rcases Nat.lt_or_ge a s with c|c
             ·have:s=mid:=by omega
              subst this;exact SPL.out.l1
             ·have:s=a:=by omega
              subst this;exact SPL.out.l2
            have FIN:Aside (∀d3,PermIn mid b d d3→SortedIn (ltOf cf) mid b d3→PermIn a b d d3∧SortedIn (ltOf cf) a b d3):=fun d3 p s'=>by
             obtain⟨x1,x2⟩:=split_done OO.out SPL.out (by omega) (by omega) (by omega) (permIn_refl _ _ _) r4 p s';exact⟨permIn_trans _ _ _ a b PD.out x1,x2⟩
            clear r4;have r3:SortedIn (ltOf cf) mid b d:=by
             rcases Nat.lt_or_ge mid e with c|c
             ·have:e=b:=by omega
              subst this;exact R12.out.1
             ·have:e=mid:=by omega
              subst this;exact R12.out.2
            obtain⟨q7,q8⟩:=FIN.out d (permIn_refl _ _ _) r3;clear r3;have Q:Aside (PermIn a b d d∧SortedIn (ltOf cf) a b d):=⟨q7,q8⟩
            clear q7 q8
            try go_wp2
            go_end0;exact⟨rfl,_,Q.out.1,Q.out.2,S1.out⟩
          ·have hzmide: ¬(mid:Int)<(e:Int):=by omega
           have hR:Rot s m e d d:=by
            refine⟨rfl,fun t=> ?_⟩;by_cases c1:s≤t∧t<s+(e-m)
            ·rw[if_pos c1];exact at_eq d (by omega)
            ·by_cases c2:s+(e-m)≤t∧t<e
             ·rw[if_neg c1,if_pos c2];exact at_eq d (by omega)
             ·rw[if_neg c1,if_neg c2]
           have SPL:Aside _:=HSP.out d hR;have PD:Aside (PermIn a b d d):=permIn_refl _ _ _;clear hR;have R12:Aside (SortedIn (ltOf cf) mid e d∧SortedIn (ltOf cf) e b d):=⟨SPL.out.r1,SPL.out.r2⟩
           have r4:SortedIn (ltOf cf) a mid d:=by
            rcases Nat.lt_or_ge a s with c|c
            ·have:s=mid:=by omega
             subst this;exact SPL.out.l1
            ·have:s=a:=by omega
             subst this;exact SPL.out.l2
           have FIN:Aside (∀d3,PermIn mid b d d3→SortedIn (ltOf cf) mid b d3→PermIn a b d d3∧SortedIn (ltOf cf) a b d3):=fun d3 p s'=>by
            obtain⟨x1,x2⟩:=split_done OO.out SPL.out (by omega) (by omega) (by omega) (permIn_refl _ _ _) r4 p s';exact⟨permIn_trans _ _ _ a b PD.out x1,x2⟩
           clear r4;have r3:SortedIn (ltOf cf) mid b d:=by
            rcases Nat.lt_or_ge mid e with c|c
            ·have:e=b:=by omega
             subst this;exact R12.out.1
            ·have:e=mid:=by omega
             subst this;exact R12.out.2
           obtain⟨q7,q8⟩:=FIN.out d (permIn_refl _ _ _) r3;clear r3;have Q:Aside (PermIn a b d d∧SortedIn (ltOf cf) a b d):=⟨q7,q8⟩
           clear q7 q8
           try go_wp2
           go_end0;exact⟨rfl,_,Q.out.1,Q.out.2,S1.out⟩
        ·have hzas: ¬(a:Int)<(s:Int):=by omega
         by_cases hqmide:mid<e
         ·have hzmide:(mid:Int)<(e:Int):=by omega
          by_cases hqeb:e<b
          ·have hzeb:(e:Int)<(b:Int):=by omega
           have hR:Rot s m e d d:=by
            refine⟨rfl,fun t=> ?_⟩;by_cases c1:s≤t∧t<s+(e-m)
            ·rw[if_pos c1];exact at_eq d (by omega)
            ·by_cases c2:s+(e-m)≤t∧t<e
             ·rw[if_neg c1,if_pos c2];exact at_eq d (by omega)
             ·rw[if_neg c1,if_neg c2]
           have SPL:Aside _:=HSP.out d hR;have PD:Aside (PermIn a b d d):=permIn_refl _ _ _;clear hR;have R12:Aside (SortedIn (ltOf cf) mid e d∧SortedIn (ltOf cf) e b d):=⟨SPL.out.r1,SPL.out.r2⟩
           have r4:SortedIn (ltOf cf) a mid d:=by
            rcases Nat.lt_or_ge a s with c|c
            ·have:s=mid:=by omega
             subst this;exact SPL.out.l1
            ·have:s=a:=by omega
             subst this;exact SPL.out.l2
           have FIN:Aside (∀d3,PermIn mid b d d3→SortedIn (ltOf cf) mid b d3→PermIn a b d d3∧SortedIn (ltOf cf) a b d3):=fun d3 p s'=>by
            obtain⟨x1,x2⟩:=split_done OO.out SPL.out (by omega) (by omega) (by omega) (permIn_refl _ _ _) r4 p s';exact⟨permIn_trans _ _ _ a b PD.out x1,x2⟩
           clear r4;have hc3:=IH.out mid e b d _ (by omega) (by omega) S1.out (by omega) (by omega) (by omega) (by omega) R12.out.1 R12.out.2
           first
           |(go_wp2_with (go_at_call 96;refine hc3.mono ?_;rintro e w3 ⟨rfl,d3,q5,q6,S7⟩))
           |(go_wp2;refine hc3.mono ?_;rintro e w3 ⟨rfl,d3,q5,q6,S7⟩)
           try go_wp2
           go_end0;obtain⟨q7,q8⟩:=FIN.out d3 q5 q6;exact⟨rfl,d3,q7,q8,S7⟩
          ·have hzeb: ¬(e:Int)<(b:Int):=by omega
           have hR:Rot s m e d d:=by
            refine⟨rfl,fun t=> ?_⟩;by_cases c1:s≤t∧t<s+(e-m)
            ·rw[if_pos c1];exact at_eq d (by omega)
            ·by_cases c2:s+(e-m)≤t∧t<e
             ·rw[if_neg c1,if_pos c2];exact at_eq d (by omega)
             ·rw[if_neg c1,if_neg c2]
           have SPL:Aside _:=HSP.out d hR;have PD:Aside (PermIn a b d d):=permIn_refl _ _ _;clear hR;have R12:Aside (SortedIn (ltOf cf) mid e d∧SortedIn (ltOf cf) e b d):=⟨SPL.out.r1,SPL.out.r2⟩
           have r4:SortedIn (ltOf cf) a mid d:=by
            rcases Nat.lt_or_ge a s with c|c
            ·have:s=mid:=by omega
             subst this;exact SPL.out.l1
            ·have:s=a:=by omega
             subst this;exact SPL.out.l2
           have FIN:Aside (∀d3,PermIn mid b d d3→SortedIn (ltOf cf) mid b d3→PermIn a b d d3∧SortedIn (ltOf cf) a b d3):=fun d3 p s'=>by
            obtain⟨x1,x2⟩:=split_done OO.out SPL.out (by omega) (by omega) (by omega) (permIn_refl _ _ _) r4 p s';exact⟨permIn_trans _ _ _ a b PD.out x1,x2⟩
           clear r4;have r3:SortedIn (ltOf cf) mid b d:=by
            rcases Nat.lt_or_ge mid e with c|c
            ·have:e=b:=by omega
             subst this;exact R12.out.1
            ·have:e=mid:=by omega
             subst this;exact R12.out.2
           obtain⟨q7,q8⟩:=FIN.out d (permIn_refl _ _ _) r3;clear r3;have Q:Aside (PermIn a b d d∧SortedIn (ltOf cf) a b d):=⟨q7,q8⟩
           clear q7 q8
           try go_wp2
           go_end0;exact⟨rfl,_,Q.out.1,Q.out.2,S1.out⟩
         ·have hzmide: ¬(mid:Int)<(e:Int):=by omega
          have hR:Rot s m e d d:=by
           refine⟨rfl,fun t=> ?_⟩;by_cases c1:s≤t∧t<s+(e-m)
           ·rw[if_pos c1];exact at_eq d (by omega)
           ·by_cases c2:s+(e-m)≤t∧t<e
            ·rw[if_neg c1,if_pos c2];exact at_eq d (by omega)
            ·rw[if_neg c1,if_neg c2]
          have SPL:Aside _:=HSP.out d hR;have PD:Aside (PermIn a b d d):=permIn_refl _ _ _;clear hR;have R12:Aside (SortedIn (ltOf cf) mid e d∧SortedIn (ltOf cf) e b d):=⟨SPL.out.r1,SPL.out.r2⟩
          have r4:SortedIn (ltOf cf) a mid d:=by
           rcases Nat.lt_or_ge a s with c|c
           ·have:s=mid:=by omega
            subst this;exact SPL.out.l1
           ·have:s=a:=by omega
            subst this;exact SPL.out.l2
          have FIN:Aside (∀d3,PermIn mid b d d3→SortedIn (ltOf cf) mid b d3→PermIn a b d d3∧SortedIn (ltOf cf) a b d3):=fun d3 p s'=>by
           obtain⟨x1,x2⟩:=split_done OO.out SPL.out (by omega) (by omega) (by omega) (permIn_refl _ _ _) r4 p s';exact⟨permIn_trans _ _ _ a b PD.out x1,x2⟩
          clear r4;have r3:SortedIn (ltOf cf) mid b d:=by
           rcases Nat.lt_or_ge mid e with c|c
           ·have:e=b:=by omega
            subst this;exact R12.out.1
           ·have:e=mid:=by omega
            subst this;exact R12.out.2
          obtain⟨q7,q8⟩:=FIN.out d (permIn_refl _ _ _) r3;clear r3;have Q:Aside (PermIn a b d d∧SortedIn (ltOf cf) a b d):=⟨q7,q8⟩
          clear q7 q8
          try go_wp2
          go_end0;exact⟨rfl,_,Q.out.1,Q.out.2,S1.out⟩
end Go.Proofs.Ytjegeghigfmkoaa.So
namespace Go.Proofs.Ytjegeghigfmkoaa.So
open Go.Shelf Go.RowKit Go.Lib Go.Sort Go.Proofs
set_option maxRecDepth 100000
set_option linter.unusedVariables false
set_option linter.unusedSimpArgs false
variable {α:Type} [Inhabited α]
set_option maxHeartbeats 40000000 in
set_option maxRecDepth 1000000 in
theorem stable {P:Program} {k:Nat} (L:Lay P k) (enc:α→List Value) (lt:α→α→Bool) (g:Nat) (cb:Array Value) (blk off cap:Nat) (d:Array α) (w0 w:World)
  (S:SWK enc k w0 blk off d w) (hsz:d.size<1152921504606846976)
  (hins: ∀(a b:Nat) (dk:Array α) (w1:World),dk.size=d.size→SWK enc k w0 blk off dk w1→a≤b→b≤dk.size→Calls P 95 #[.slice (some ⟨blk,off,none⟩) d.size cap,.int .i64 a,.int .i64 b,.func (.func g) #[] cb] w1 fun e w'=>e= .returned (.tuple #[])∧ ∃d',PermIn a b dk d'∧SortedIn lt a b d'∧SWK enc k w0 blk off d' w')
  (hsym: ∀(a m b:Nat) (dk:Array α) (w1:World),dk.size=d.size→SWK enc k w0 blk off dk w1→a<m→m<b→b≤dk.size→SortedIn lt a m dk→SortedIn lt m b dk→Calls P 96 #[.slice (some ⟨blk,off,none⟩) d.size cap,.int .i64 a,.int .i64 m,.int .i64 b,.func (.func g) #[] cb] w1 fun e w'=>e= .returned (.tuple #[])∧ ∃d',PermIn a b dk d'∧SortedIn lt a b d'∧SWK enc k w0 blk off d' w'):
  Calls P 93 #[.slice (some ⟨blk,off,none⟩) d.size cap,.int .i64 d.size,.func (.func g) #[] cb] w fun e w'=>e= .returned (.tuple #[])∧ ∃d',PermIn 0 d.size d d'∧SortedIn lt 0 d.size d'∧SWK enc k w0 blk off d' w' :=by
 have mixed:=L.mixed;have t0:=L.t0;have a0:=L.a0;have z0:=L.z0;have v0:=L.v0;have t3:=L.t3;have a3:=L.a3;have z3:=L.z3;have v3:=L.v3;have t4:=L.t4;have a4:=L.a4;have z4:=L.z4;have v4:=L.v4;have t35:=L.t35;have a35:=L.a35;have z44:=L.z44;have v35:=L.v35;have t68:=L.t68;have a68:=L.a68;have z131:=L.z131;have v68:=L.v68;have FG:=L.f62;have e64: ∀args w,(callFunc 95 args).run P w= .ok (.enter 95 args) w:=enters_of L.f64 (by kernel_rfl) rfl;have e65: ∀args w,(callFunc 96 args).run P w= .ok (.enter 96 args) w:=enters_of L.f65 (by kernel_rfl) rfl;have HI:Aside _:=hins;have HS:Aside _:=hsym;clear hins hsym;have S0:Aside (SWK enc k w0 blk off d w):=S;clear S;obtain⟨n,hn⟩: ∃n:Nat,n=d.size:=⟨_,rfl⟩
 have HN:Aside (n=d.size):=hn;rw[←hn] at HI HS ⊢;have hszn:n<1152921504606846976:=by omega
 clear hn hsz;go_enter FG,Try.ntmps93;go_wp2;go_loopg [7,8] n (fun kx s7 s8 wr=> ∃(a:Nat) (dk:Array α),s7= .int .i64 a∧s8= .int .i64 ((a:Int)+20)∧a≤n∧n-a≤kx∧Aside (SWK enc k w0 blk off dk wr)∧Aside (PermIn 0 n d dk)∧Aside (Front lt 20 dk a))
 case atStart=>exact⟨0,d,rfl,rfl,Nat.zero_le _,Nat.le_refl _,S0,permIn_refl _ _ _,.zero⟩
 case round=>
  clear S0;obtain⟨a,dk,rfl,rfl,han,hkx,S1,PP,FR⟩:=hrel;have hdk:dk.size=n:=PP.out.1.trans HN.out.symm;by_cases hlt:a+20≤n
  ·have hltz:(a:Int)+20≤(n:Int):=by omega
   have zb:(a:Int)+20=((a+20:Nat):Int):=by omega
   have hc:=HI.out a (a+20) dk wr (by omega) S1.out (by omega) (by omega);rw[←zb] at hc;clear zb;go_wp2_with (go_at_call 95;refine hc.mono ?_;rintro e w1 ⟨rfl,d1,q1,q2,S2⟩);go_roundg (n- (a+20))
   case measure=>omega
   case rel=>
    refine⟨a+20,d1,by first|rfl|go_num|(congr 1;omega),by first|rfl|go_num|(congr 1;omega),by omega,Nat.le_refl _,S2,?_,?_⟩
    ·exact permIn_trans _ _ _ 0 n PP.out (permIn_mono dk d1 a (a+20) 0 n (by omega) hlt (by omega) q1)
    ·exact .more a (Front.keep FR.out (fun t ht=>q1.2.1 t (Or.inl ht))) q2
  ·have hltz: ¬(a:Int)+20≤(n:Int):=by omega
   have hc:=HI.out a n dk wr (by omega) S1.out (by omega) (by omega);go_wp2_with (go_at_call 95;refine hc.mono ?_;rintro e w1 ⟨rfl,d1,q1,q2,S2⟩);have hp1:PermIn 0 n d d1:=permIn_trans _ _ _ 0 n PP.out (permIn_mono dk d1 a n 0 n (by omega) (Nat.le_refl _) (by omega) q1);have P1:Aside (PermIn 0 n d d1):=hp1;have R1:Aside (Runs lt 20 n d1 0):=Front.join (by omega) (Front.keep FR.out (fun t ht=>q1.2.1 t (Or.inl ht))) han (Runs.ofLast q2 (by omega));have S3:Aside (SWK enc k w0 blk off d1 w1):=S2;clear S2 q1 q2 hp1 PP FR S1 hc;go_loopg [6] n (fun kx s6 wr=> ∃(s:Nat) (dk:Array α),s6= .int .i64 s∧0<s∧s<2305843009213693952∧n-s≤kx∧Aside (SWK enc k w0 blk off dk wr)∧Aside (PermIn 0 n d dk)∧Aside (Runs lt s n dk 0))
   case atStart=>exact⟨20,d1,rfl,by omega,by omega,by omega,S3,P1,R1⟩
   case round=>
    clear S3 P1 R1 hdk;obtain⟨s,d2,rfl,hs0,hs1,hkx2,S4,P2,R2⟩:=hrel;by_cases hsn:s<n
    ·have hsnz:(s:Int)<(n:Int):=by omega
     go_wp2;go_loopg [7,8] n (fun kx s7 s8 wr=> ∃(x:Nat) (dk:Array α),s7= .int .i64 x∧s8= .int .i64 ((x:Int)+2*(s:Int))∧x≤n∧n-x≤kx∧Aside (SWK enc k w0 blk off dk wr)∧Aside (PermIn 0 n d dk)∧Aside (Front lt (2*s) dk x∧Runs lt s n dk x))
     case atStart=>exact⟨0,d2,rfl,by first|rfl|go_num|(congr 1;omega),Nat.zero_le _,Nat.le_refl _,S4,P2,⟨.zero,R2.out⟩⟩
     case round=>
      clear S4 P2 R2;obtain⟨x,d3,rfl,rfl,hxn,hkx3,S5,P3,R3⟩:=hrel;have hd3:d3.size=n:=P3.out.1.trans HN.out.symm;by_cases hle:x+2*s≤n
      ·have hlez:(x:Int)+2*(s:Int)≤(n:Int):=by omega
       obtain⟨q1,q2,q3⟩:=Runs.two R3.out.2 hle hs0;have zm:(x:Int)+(s:Int)=((x+s:Nat):Int):=by omega
       have zb:(x:Int)+2*(s:Int)=((x+2*s:Nat):Int):=by omega
       have hc:=HS.out x (x+s) (x+2*s) d3 wr (by omega) S5.out (by omega) (by omega) (by omega) q1 q2;have Q3:Aside _:=q3;clear q1 q2 q3;rw[←zm,←zb] at hc;clear zm zb;go_wp2_with (go_at_call 96;refine hc.mono ?_;rintro e w2 ⟨rfl,d4,q4,q5,S6⟩);go_roundg (n- (x+2*s))
       case measure=>omega
       case rel=>
        refine⟨x+2*s,d4,by first|rfl|go_num|(congr 1;omega),by first|rfl|go_num|(congr 1;omega),hle,Nat.le_refl _,S6,?_,?_,?_⟩
        ·exact permIn_trans _ _ _ 0 n P3.out (permIn_mono d3 d4 x (x+2*s) 0 n (by omega) hle (by omega) q4)
        ·exact .more x (Front.keep R3.out.1 (fun t ht=>q4.2.1 t (Or.inl ht))) q5
        ·exact Runs.keep Q3.out (fun t ht=>q4.2.1 t (Or.inr ht))
      ·have hlez: ¬(x:Int)+2*(s:Int)≤(n:Int):=by omega
       by_cases hm:x+s<n
       ·have hmz:(x:Int)+(s:Int)<(n:Int):=by omega
        obtain⟨q1,q2⟩:=Runs.last R3.out.2 hm (by omega);have zm:(x:Int)+(s:Int)=((x+s:Nat):Int):=by omega
        have hc:=HS.out x (x+s) n d3 wr (by omega) S5.out (by omega) hm (by omega) q1 q2;clear q1 q2;rw[←zm] at hc;clear zm;go_wp2_with (go_at_call 96;refine hc.mono ?_;rintro e w2 ⟨rfl,d4,q4,q5,S6⟩);go_roundg (n-2*s)
        case measure=>omega
        case rel=>
         refine⟨2*s,d4,by first|rfl|go_num|(congr 1;omega),by omega,by omega,Nat.le_refl _,S6,?_,?_⟩
         ·exact permIn_trans _ _ _ 0 n P3.out (permIn_mono d3 d4 x n 0 n (by omega) (Nat.le_refl _) (by omega) q4)
         ·exact Front.join (by omega) (Front.keep R3.out.1 (fun t ht=>q4.2.1 t (Or.inl ht))) hxn (Runs.ofLast q5 (by omega))
       ·have hmz: ¬(x:Int)+(s:Int)<(n:Int):=by omega
        go_wp2;go_roundg (n-2*s)
        case measure=>omega
        case rel=>exact⟨2*s,d3,by first|rfl|go_num|(congr 1;omega),by omega,by omega,Nat.le_refl _,S5,P3,Front.join (by omega) R3.out.1 hxn (Runs.ofLast (Runs.one R3.out.2 (by omega)) (by omega))⟩
    ·have hsnz: ¬(s:Int)<(n:Int):=by omega
     go_wp2;go_end0;exact⟨rfl,d2,P2.out,Runs.one R2.out (by omega),S4.out⟩
end Go.Proofs.Ytjegeghigfmkoaa.So
