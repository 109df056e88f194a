/- Proofs towards the law StatePlays, joined into one text. No conditions beyond those typed. -/
import Derived.Test.YtjegeghigfmkoaaMStatePlays11
namespace Go.Proofs.Ytjegeghigfmkoaa.X
open Go.RowKit Go.Proofs.YtjegeghigfmkoaaW.PrintWords Go.Proofs.YtjegeghigfmkoaaW.PrintLast Go.Proofs.YtjegeghigfmkoaaW.PrintMore
attribute [local go_sem] max2_int min2_int max_two min_two max_three min_three max_four min_four   -- for this text's walks alone
set_option linter.unusedVariables false
set_option linter.unusedSimpArgs false
mutual
def leatref11_Sort.l0:Nat ->List (S70) ->List (S70) ->Int ->Option ((List (S70)))
 |0,_,_,_=>none
 |k+1,x0,x3,x4=>if x4<(x0.length:Int) then(leatref11_Sort.l1 k x0 x3 x4 0 (x3.length:Int)) else(some x3)
def leatref11_Sort.l1:Nat ->List (S70) ->List (S70) ->Int ->Int ->Int ->Option ((List (S70)))
 |0,_,_,_,_,_=>none
 |k+1,x0,x3,x4,x5,x6=>if x5<x6 then(if 0<=x4 then(if x4<(x0.length:Int) then(if 0<=(wrap64 (Int.tdiv (wrap64 (x5+x6)) 2)) then(if (wrap64 (Int.tdiv (wrap64 (x5+x6)) 2))<(x3.length:Int) then((leatref11_less.f ((rd_T70 x0 x4).f0) ((rd_T70 x0 x4).f1.f0) ((rd_T70 x0 x4).f1.f1) ((rd_T70 x0 x4).f2) ((rd_T70 x3 (wrap64 (Int.tdiv (wrap64 (x5+x6)) 2))).f0) ((rd_T70 x3 (wrap64 (Int.tdiv (wrap64 (x5+x6)) 2))).f1.f0) ((rd_T70 x3 (wrap64 (Int.tdiv (wrap64 (x5+x6)) 2))).f1.f1) ((rd_T70 x3 (wrap64 (Int.tdiv (wrap64 (x5+x6)) 2))).f2)).bind fun t166=>(if t166=true then(leatref11_Sort.l1 k x0 x3 x4 x5 (wrap64 (Int.tdiv (wrap64 (x5+x6)) 2))) else(leatref11_Sort.l1 k x0 x3 x4 (wrap64 ((wrap64 (Int.tdiv (wrap64 (x5+x6)) 2))+1)) x6))) else(none)) else(none)) else(none)) else(none)) else(if x3.length<4398046511104 then((some (x3++[(⟨0,(⟨0,0⟩:S68),0⟩:S70)]:List (S70))).bind fun y167=>(leatref11_Sort.l2 k x0 y167 x4 x5 (wrap64 ((y167.length:Int)-1)))) else(none))
def leatref11_Sort.l2:Nat ->List (S70) ->List (S70) ->Int ->Int ->Int ->Option ((List (S70)))
 |0,_,_,_,_,_=>none
 |k+1,x0,x3,x4,x5,x8=>if x8>x5 then(if 0<=(wrap64 (x8-1)) then(if (wrap64 (x8-1))<(x3.length:Int) then(if 0<=x8 then(if x8<(x3.length:Int) then(leatref11_Sort.l2 k x0 (x3.set (x8:Int).toNat (⟨(rd_T70 x3 (wrap64 (x8-1))).f0,(⟨(rd_T70 x3 (wrap64 (x8-1))).f1.f0,(rd_T70 x3 (wrap64 (x8-1))).f1.f1⟩:S68),(rd_T70 x3 (wrap64 (x8-1))).f2⟩:S70)) x4 x5 (wrap64 (x8-1))) else(none)) else(none)) else(none)) else(none)) else(if 0<=x4 then(if x4<(x0.length:Int) then(if 0<=x5 then(if x5<(x3.length:Int) then(leatref11_Sort.l0 k x0 (x3.set (x5:Int).toNat (⟨(rd_T70 x0 x4).f0,(⟨(rd_T70 x0 x4).f1.f0,(rd_T70 x0 x4).f1.f1⟩:S68),(rd_T70 x0 x4).f2⟩:S70)) (wrap64 (x4+1))) else(none)) else(none)) else(none)) else(none))
end
def leatref11_Sort.f (k:Nat) (l0:List (S70)):Option ((List (S70))):=leatref11_Sort.l0 k l0 ([]:List (S70)) 0
def leatref11_Sort.T8:Bool×List (List Nat×List Nat):=(true,[([],[]),([],[]),([0,1],[0,1]),([2],[2]),([],[]),([],[]),([4,5],[4,5]),([6],[6]),([3,7],[3,7])])
def leatref11_Sort.B8:List Nat:=[0,0,3,7,0,0,48,112,255]
theorem leatref11_Sort.tab8:rtab .any (opsOf Try.f24 8)=leatref11_Sort.T8:=by kernel_rfl
theorem leatref11_Sort.bits8:waitsOk leatref11_Sort.T8.2 leatref11_Sort.B8=true:=by kernel_rfl
set_option maxHeartbeats 8000000 in
set_option maxRecDepth 100000 in
theorem leatref11_Sort.calls (k:Nat) (A0:Option Addr) (c0:Nat) (l0:List (S70)) (r:List (S70)) (w:World) (hr0:Kd.C k70 w A0 l0.length l0) (hc0:l0.length<=c0) (h:leatref11_Sort.f k l0=some r):
  Calls Try.prog 24 #[.slice A0 l0.length c0] w fun e w'=> ∃v0_:Value,e= .returned (v0_)/\Kd.R k70 70 w' w.heap.size (fun _=>True) v0_ r/\Below w.heap.size w w' :=by
 have hu70:=Try.underlying70;have HR0:=zd hr0;have HC0:=zd hc0;clear hr0 hc0;have HB:=zd (Below.refl w.heap.size w);have H:(leatref11_Sort.l0 k l0 ([]:List (S70)) 0)=some r:=h;clear h;have H' :=zd H;clear H;go_enter Try.func24,Try.ntmps24;go_wp2;go_loopg [3,4] k (fun kq v3 v4 w'=> ∃(x3_1:List (S70)) (x4_1:Int),v4= .int .i64 x4_1/\Aside0 (leatref11_Sort.l0 kq l0 x3_1 x4_1=some r)/\Aside0 (kq<=k)/\Aside0 (Kd.R k70 70 w' w.heap.size (fun _=>True) v3 x3_1)/\Aside0 (Below w.heap.size w w'))
 case atStart=>exact⟨(([]:List (S70))),(0),(by first|rfl|(simp;done)|(simp[*];done)),H',⟨Nat.le_refl _⟩,⟨by first|exact Kd.R_nil _ _ _ _ _|exact Kd.N_nil _ _ _ _ _|exact Kd.V_nil _ _ _ _ _|exact Kd.Q_nil _ _ _ _ _|exact Kd.S_nil _ _ _ _ _⟩,⟨by repeat (first|(with_reducible first|exact HB.out|apply zh|apply zi|apply zj)|exact HB.out)⟩⟩
 case round =>
  clear H';obtain⟨x3_1,x4_1,rfl,HA,HK1,HO_3,HB⟩:=hrel;cases gk with
  |zero=>exact absurd HA.out (by simp[leatref11_Sort.l0])
  | succ k1 =>
   have H:=HA.out;clear HA;simp only[leatref11_Sort.l0] at H;by_cases c2:x4_1<(l0.length:Int)
   ·rw [if_pos c2] at H;have c2b0:decide (x4_1<(l0.length:Int))=true:=decide_eq_true c2;clear c2;have H' :=zd H;clear H;obtain⟨Ao3,co3,eo3⟩:=Kd.R_slice HO_3.out;subst eo3;go_wp2;go_loopg [5,6] k1 (fun kq v5 v6 w'=> ∃(x5_2:Int) (x6_2:Int),v5= .int .i64 x5_2/\v6= .int .i64 x6_2/\Aside0 (leatref11_Sort.l1 kq l0 x3_1 x4_1 x5_2 x6_2=some r)/\Aside0 (kq<=k1)/\Aside0 (Kd.R k70 70 w' w.heap.size (fun _=>True) (.slice Ao3 x3_1.length co3) x3_1)/\Aside0 (Below w.heap.size w w'))
    case atStart=>exact⟨(0),((x3_1.length:Int)),(by first|rfl|(simp;done)|(simp[*];done)),(by first|rfl|(simp;done)|(simp[*];done)),H',⟨Nat.le_refl _⟩,⟨by(with_reducible repeat (first|apply ze|apply zf|apply zg));exact HO_3.out⟩,⟨by repeat (first|(with_reducible first|exact HB.out|apply zh|apply zi|apply zj)|exact HB.out)⟩⟩
    case round =>
     clear H'
     try clear c2;try clear c2b0;try clear p2
     obtain⟨x5_2,x6_2,rfl,rfl,HA,HK2,HO_3,HB⟩:=hrel;cases gk with
     |zero=>exact absurd HA.out (by simp[leatref11_Sort.l1])
     | succ k2 =>
      have H:=HA.out;clear HA;simp only[leatref11_Sort.l1] at H;by_cases c4:x5_2<x6_2
      ·rw [if_pos c4] at H;have c4b0:decide (x5_2<x6_2)=true:=decide_eq_true c4;clear c4;by_cases c5:0<=x4_1
       ·rw [if_pos c5] at H;have c5b0:decide (0<=x4_1)=true:=decide_eq_true c5;clear c5;by_cases c6:x4_1<(l0.length:Int)
        ·rw [if_pos c6] at H;have c6b0:decide (x4_1<(l0.length:Int))=true:=decide_eq_true c6;clear c6;obtain⟨ji7,hji7⟩: ∃j_:Int,(wrap64 (Int.tdiv (wrap64 (x5_2+x6_2)) 2))=j_:=⟨_,rfl⟩
         replace H:(if 0<=(ji7) then(if (ji7)<(x3_1.length:Int) then((leatref11_less.f ((rd_T70 l0 x4_1).f0) ((rd_T70 l0 x4_1).f1.f0) ((rd_T70 l0 x4_1).f1.f1) ((rd_T70 l0 x4_1).f2) ((rd_T70 x3_1 (ji7)).f0) ((rd_T70 x3_1 (ji7)).f1.f0) ((rd_T70 x3_1 (ji7)).f1.f1) ((rd_T70 x3_1 (ji7)).f2)).bind fun t166=>(if t166=true then(leatref11_Sort.l1 k2 l0 x3_1 x4_1 x5_2 ji7) else(leatref11_Sort.l1 k2 l0 x3_1 x4_1 (wrap64 ((ji7)+1)) x6_2))) else(none)) else(none))=some r:=by first|(rw[hji7] at H;exact H)|(simp only[hji7] at H ⊢;exact H)
         have hji7w:(IntKind.i64.wrap (Int.tdiv (wrap64 (x5_2+x6_2)) 2))=ji7:=(i64_w _).trans hji7;by_cases c8:0<=(ji7)
         ·rw [if_pos c8] at H;have c8b0:decide (0<=(ji7))=true:=decide_eq_true c8;clear c8;by_cases c9:(ji7)<(x3_1.length:Int)
          ·rw[if_pos c9] at H;have c9b0:decide ((ji7)<(x3_1.length:Int))=true:=decide_eq_true c9;clear c9;replace H:=Option.bind_eq_some_iff.mp H;obtain⟨t166,A100,H⟩:=H;replace H:(if t166=true then(leatref11_Sort.l1 k2 l0 x3_1 x4_1 x5_2 ji7) else(leatref11_Sort.l1 k2 l0 x3_1 x4_1 (wrap64 ((ji7)+1)) x6_2))=some r:=H;have A10:=zd A100;clear A100;by_cases c11:t166=true
           ·subst c11;have H1:(leatref11_Sort.l1 k2 l0 x3_1 x4_1 x5_2 ji7)=some r:=by rw[if_pos rfl] at H;exact H
            clear H;have H:=H1;clear H1;have H' :=zd H;clear H
            try go_wp2
            have n0_:=zd (zg HO_3.out);have n1_:=zd (zj HB.out);clear HO_3;clear HB;have HO_3:=n0_;have HB:=n1_;clear n0_ n1_;have p164:0<=(x4_1:Int):=of_decide_eq_true (by first|(with_reducible assumption)|assumption);have q164:x4_1<(l0.length:Int):=of_decide_eq_true (by first|(with_reducible assumption)|assumption);obtain⟨ad164,e164,hx164_0,hx164_1,hx164_2,hx164_3⟩:=at_T70 HR0.out x4_1 p164 q164;have hw164_3:=hx164_3;have hw164_2:=hx164_2;have hw164_1:=hx164_1;have hw164_0:=hx164_0;cases e164;replace hx164_0:=(HB.out.cell (World.block_lt_of_cell? w _ hx164_0)).trans hx164_0;replace hx164_1:=(HB.out.cell (World.block_lt_of_cell? w _ hx164_1)).trans hx164_1;replace hx164_2:=(HB.out.cell (World.block_lt_of_cell? w _ hx164_2)).trans hx164_2;replace hx164_3:=(HB.out.cell (World.block_lt_of_cell? w _ hx164_3)).trans hx164_3;replace p164:=eq_true p164;replace q164:=eq_true q164;have p165:0<=((ji7):Int):=of_decide_eq_true (by first|(with_reducible assumption)|assumption);have q165:(ji7)<(x3_1.length:Int):=of_decide_eq_true (by first|(with_reducible assumption)|assumption);obtain⟨ad165,e165,hx165_0,hx165_1,hx165_2,hx165_3⟩:=at_T70 (Kd.R_reads' HO_3.out).2.2 (ji7) p165 q165;cases e165;replace p165:=eq_true p165;replace q165:=eq_true q165;refine start_ (n:=9) (S:=fun w'=>w'.cell? (ad164.add ((x4_1).toNat*4))=some (.int .i64 ((rd_T70 l0 x4_1).f0))/\w'.cell? ⟨(ad164.add ((x4_1).toNat*4)).block,(ad164.add ((x4_1).toNat*4)).off+1,none⟩=some (.int .i64 ((rd_T70 l0 x4_1).f1.f0))/\w'.cell? ⟨(ad164.add ((x4_1).toNat*4)).block,(ad164.add ((x4_1).toNat*4)).off+2,none⟩=some (.int .i64 ((rd_T70 l0 x4_1).f1.f1))/\w'.cell? ⟨(ad164.add ((x4_1).toNat*4)).block,(ad164.add ((x4_1).toNat*4)).off+3,none⟩=some (.int .i64 ((rd_T70 l0 x4_1).f2))/\w'.cell? (ad165.add (((ji7)).toNat*4))=some (.int .i64 ((rd_T70 x3_1 (ji7)).f0))/\w'.cell? ⟨(ad165.add (((ji7)).toNat*4)).block,(ad165.add (((ji7)).toNat*4)).off+1,none⟩=some (.int .i64 ((rd_T70 x3_1 (ji7)).f1.f0))/\w'.cell? ⟨(ad165.add (((ji7)).toNat*4)).block,(ad165.add (((ji7)).toNat*4)).off+2,none⟩=some (.int .i64 ((rd_T70 x3_1 (ji7)).f1.f1))/\w'.cell? ⟨(ad165.add (((ji7)).toNat*4)).block,(ad165.add (((ji7)).toNat*4)).off+3,none⟩=some (.int .i64 ((rd_T70 x3_1 (ji7)).f2))) (ds:=[]) #[f_,f_,f_,f_,f_,f_,f_,f_,f_] (by kernel_rfl) rfl rfl ⟨((HB.out.cell (World.block_lt_of_cell? w _ hw164_0)).trans hw164_0),((HB.out.cell (World.block_lt_of_cell? w _ hw164_1)).trans hw164_1),((HB.out.cell (World.block_lt_of_cell? w _ hw164_2)).trans hw164_2),((HB.out.cell (World.block_lt_of_cell? w _ hw164_3)).trans hw164_3),hx165_0,hx165_1,hx165_2,hx165_3⟩ (fun hHeld=> ?_);refine with_tabW leatref11_Sort.tab8 leatref11_Sort.bits8 (fun HT_ HW_=> ?_);generalize wr.drew=w12 at HO_3 HB hx164_0 hx164_1 hx164_2 hx164_3 hx165_0 hx165_1 hx165_2 hx165_3 hHeld ⊢;refine pure_ (i:=0) (N:=some 24) (v:= ?_) (a' := ?_) #[t_,f_,f_,f_,f_,f_,f_,f_,f_] rfl rfl (any_of HT_.out (by kernel_rfl)) (fun _ _ _ h=>h) (Or.inl ⟨by rfl,?_⟩) ?_ ?_;rotate_left
            ·intro w';go_simp
             with_reducible rfl
            rotate_left
            ·simp only[Act.put,za,zb,zc,i64_w,i32_w];rfl
            refine pure_ (i:=1) (N:=some 25) (v:= ?_) (a' := ?_) #[t_,t_,f_,f_,f_,f_,f_,f_,f_] rfl rfl (any_of HT_.out (by kernel_rfl)) (fun _ _ _ h=>h) (Or.inl ⟨by rfl,?_⟩) ?_ ?_;rotate_left
            ·intro w';go_simp
             with_reducible rfl
            rotate_left
            ·simp only[Act.put,za,zb,zc,i64_w,i32_w];rfl
            refine pure_ (i:=2) (N:=some 26) (v:= ?_) (a' := ?_) #[t_,t_,t_,f_,f_,f_,f_,f_,f_] rfl rfl (any_of HT_.out (by kernel_rfl)) (fun _ _ _ h=>h) (Or.inl ⟨by rfl,?_⟩) ?_ ?_;rotate_left
            ·intro w';go_simp
             with_reducible rfl
            rotate_left
            ·simp only[Act.put,za,zb,zc,i64_w,i32_w];rfl
            refine pure_ (i:=4) (N:=some 28) (v:= ?_) (a' := ?_) #[t_,t_,t_,f_,t_,f_,f_,f_,f_] rfl rfl (any_of HT_.out (by kernel_rfl)) (fun _ _ _ h=>h) (Or.inl ⟨by rfl,?_⟩) ?_ ?_;rotate_left
            ·intro w';go_simp
             with_reducible rfl
            rotate_left
            ·simp only[Act.put,za,zb,zc,i64_w,i32_w];rfl
            refine pure_ (i:=5) (N:=some 29) (v:= ?_) (a' := ?_) #[t_,t_,t_,f_,t_,t_,f_,f_,f_] rfl rfl (any_of HT_.out (by kernel_rfl)) (fun _ _ _ h=>h) (Or.inl ⟨by rfl,?_⟩) ?_ ?_;rotate_left
            ·intro w';go_simp
             with_reducible rfl
            rotate_left
            ·simp only[Act.put,za,zb,zc,i64_w,i32_w];rfl
            refine pure_ (i:=6) (N:=some 30) (v:= ?_) (a' := ?_) #[t_,t_,t_,f_,t_,t_,t_,f_,f_] rfl rfl (any_of HT_.out (by kernel_rfl)) (fun _ _ _ h=>h) (Or.inl ⟨by rfl,?_⟩) ?_ ?_;rotate_left
            ·intro w';go_simp
             with_reducible rfl
            rotate_left
            ·simp only[Act.put,za,zb,zc,i64_w,i32_w];rfl
            refine take_ (i:=3) (N:=some 27) (v:= ?_) (a' := ?_) #[t_,t_,t_,t_,t_,t_,t_,f_,f_] rfl rfl (take_ofW HT_.out HW_.out (by kernel_rfl)) (fun _ _ _ h=>h) (Or.inl ⟨by rfl,?_⟩) hHeld ?_ ?_;rotate_left
            ·rintro w' ⟨s0,s1,s2,s3,s4,s5,s6,s7⟩;go_simp
             with_reducible rfl
            rotate_left
            ·simp only[Act.put,za,zb,zc,i64_w,i32_w];rfl
            refine take_ (i:=7) (N:=some 31) (v:= ?_) (a' := ?_) #[t_,t_,t_,t_,t_,t_,t_,t_,f_] rfl rfl (take_ofW HT_.out HW_.out (by kernel_rfl)) (fun _ _ _ h=>h) (Or.inl ⟨by rfl,?_⟩) hHeld ?_ ?_;rotate_left
            ·rintro w' ⟨s0,s1,s2,s3,s4,s5,s6,s7⟩;go_simp
             with_reducible rfl
            rotate_left
            ·simp only[Act.put,za,zb,zc,i64_w,i32_w];rfl
            refine one_ (i:=8) (N:=some 32) #[t_,t_,t_,t_,t_,t_,t_,t_,t_] rfl rfl (one_of HT_.out (by kernel_rfl)) (by decide) (fun K hK=> ?_);refine goes_ Try.func51 (by kernel_rfl) rfl #[.agg #[.int .i64 ((rd_T70 l0 x4_1).f0),.int .i64 ((rd_T70 l0 x4_1).f1.f0),.int .i64 ((rd_T70 l0 x4_1).f1.f1),.int .i64 ((rd_T70 l0 x4_1).f2)],.agg #[.int .i64 ((rd_T70 x3_1 (ji7)).f0),.int .i64 ((rd_T70 x3_1 (ji7)).f1.f0),.int .i64 ((rd_T70 x3_1 (ji7)).f1.f1),.int .i64 ((rd_T70 x3_1 (ji7)).f2)]] (by rfl) rfl rfl (by(try simp only[List.map_toArray,List.map_cons,List.map_nil]);first|done|(simp only[hji7];rfl)|rfl|(simp only[List.length_drop,List.length_take];rfl)) ?_
            with_reducible refine(leatref11_less.calls ((rd_T70 l0 x4_1).f0) ((rd_T70 l0 x4_1).f1.f0) ((rd_T70 l0 x4_1).f1.f1) ((rd_T70 l0 x4_1).f2) ((rd_T70 x3_1 (ji7)).f0) ((rd_T70 x3_1 (ji7)).f1.f0) ((rd_T70 x3_1 (ji7)).f1.f1) ((rd_T70 x3_1 (ji7)).f2) true _ A10.out).mono ?_
            rintro e w13 ⟨rfl,hb⟩;have HS4_:=(hb.cell (World.block_lt_of_cell? _ _ (hHeld.2.2.2.2.1))).trans (hHeld.2.2.2.2.1);have HS5_:=(hb.cell (World.block_lt_of_cell? _ _ (hHeld.2.2.2.2.2.1))).trans (hHeld.2.2.2.2.2.1);have HS6_:=(hb.cell (World.block_lt_of_cell? _ _ (hHeld.2.2.2.2.2.2.1))).trans (hHeld.2.2.2.2.2.2.1);have HS7_:=(hb.cell (World.block_lt_of_cell? _ _ (hHeld.2.2.2.2.2.2.2))).trans (hHeld.2.2.2.2.2.2.2);refine⟨_,rfl,?_⟩;have n0_:=zd (zr (by(with_reducible repeat (first|apply ze|apply zf|apply zg));exact HO_3.out) hb);have n1_:=zd (zs (by repeat (first|(with_reducible first|exact HB.out|apply zh|apply zi|apply zj)|exact HB.out)) hb);clear HO_3;clear HB;have HO_3:=n0_;have HB:=n1_;clear n0_ n1_
            (try clear hb)
            (try clear hb2)
            (try clear hk)
            (try clear hi)
            refine hK.out _ _ ⟨((HB.out.cell (World.block_lt_of_cell? w _ hw164_0)).trans hw164_0),((HB.out.cell (World.block_lt_of_cell? w _ hw164_1)).trans hw164_1),((HB.out.cell (World.block_lt_of_cell? w _ hw164_2)).trans hw164_2),((HB.out.cell (World.block_lt_of_cell? w _ hw164_3)).trans hw164_3),HS4_,HS5_,HS6_,HS7_⟩ (fun hHeld=> ?_);clear hK K;refine norm_ (a' := ?_) ?_ ?_;rotate_left
            ·show Act.put _ (some 32) _=_;simp only[Act.put,za,zb,zc,i64_w,i32_w];rfl
            refine done_ (done_of HT_.out (by kernel_rfl)) ?_
            try go_wp2
            go_roundg k2
            case measure=>have:=HK1.out;have:=HK2.out;omega
            case rel=>exact⟨(x5_2),(ji7),(by first|rfl|(simp;done)|(simp[*];done)),(by first|rfl|(simp;done)|(simp only[←hji7]<;>(first|rfl|simp))|(simp[*];done)),H',⟨by have:=HK1.out;have:=HK2.out;omega⟩,⟨by(with_reducible repeat (first|apply ze|apply zf|apply zg));exact HO_3.out⟩,⟨by repeat (first|(with_reducible first|exact HB.out|apply zh|apply zi|apply zj)|exact HB.out)⟩⟩
           ·replace c11:=Bool.eq_false_iff.mpr c11;subst c11;have H1:(leatref11_Sort.l1 k2 l0 x3_1 x4_1 (wrap64 ((ji7)+1)) x6_2)=some r:=by rw[if_neg (show ¬(false=true) by decide)] at H;exact H
            clear H;have H:=H1;clear H1;have H' :=zd H;clear H
            try go_wp2
            have n0_:=zd (zg HO_3.out);have n1_:=zd (zj HB.out);clear HO_3;clear HB;have HO_3:=n0_;have HB:=n1_;clear n0_ n1_;have p164:0<=(x4_1:Int):=of_decide_eq_true (by first|(with_reducible assumption)|assumption);have q164:x4_1<(l0.length:Int):=of_decide_eq_true (by first|(with_reducible assumption)|assumption);obtain⟨ad164,e164,hx164_0,hx164_1,hx164_2,hx164_3⟩:=at_T70 HR0.out x4_1 p164 q164;have hw164_3:=hx164_3;have hw164_2:=hx164_2;have hw164_1:=hx164_1;have hw164_0:=hx164_0;cases e164;replace hx164_0:=(HB.out.cell (World.block_lt_of_cell? w _ hx164_0)).trans hx164_0;replace hx164_1:=(HB.out.cell (World.block_lt_of_cell? w _ hx164_1)).trans hx164_1;replace hx164_2:=(HB.out.cell (World.block_lt_of_cell? w _ hx164_2)).trans hx164_2;replace hx164_3:=(HB.out.cell (World.block_lt_of_cell? w _ hx164_3)).trans hx164_3;replace p164:=eq_true p164;replace q164:=eq_true q164;have p165:0<=((ji7):Int):=of_decide_eq_true (by first|(with_reducible assumption)|assumption);have q165:(ji7)<(x3_1.length:Int):=of_decide_eq_true (by first|(with_reducible assumption)|assumption);obtain⟨ad165,e165,hx165_0,hx165_1,hx165_2,hx165_3⟩:=at_T70 (Kd.R_reads' HO_3.out).2.2 (ji7) p165 q165;cases e165;replace p165:=eq_true p165;replace q165:=eq_true q165;refine start_ (n:=9) (S:=fun w'=>w'.cell? (ad164.add ((x4_1).toNat*4))=some (.int .i64 ((rd_T70 l0 x4_1).f0))/\w'.cell? ⟨(ad164.add ((x4_1).toNat*4)).block,(ad164.add ((x4_1).toNat*4)).off+1,none⟩=some (.int .i64 ((rd_T70 l0 x4_1).f1.f0))/\w'.cell? ⟨(ad164.add ((x4_1).toNat*4)).block,(ad164.add ((x4_1).toNat*4)).off+2,none⟩=some (.int .i64 ((rd_T70 l0 x4_1).f1.f1))/\w'.cell? ⟨(ad164.add ((x4_1).toNat*4)).block,(ad164.add ((x4_1).toNat*4)).off+3,none⟩=some (.int .i64 ((rd_T70 l0 x4_1).f2))/\w'.cell? (ad165.add (((ji7)).toNat*4))=some (.int .i64 ((rd_T70 x3_1 (ji7)).f0))/\w'.cell? ⟨(ad165.add (((ji7)).toNat*4)).block,(ad165.add (((ji7)).toNat*4)).off+1,none⟩=some (.int .i64 ((rd_T70 x3_1 (ji7)).f1.f0))/\w'.cell? ⟨(ad165.add (((ji7)).toNat*4)).block,(ad165.add (((ji7)).toNat*4)).off+2,none⟩=some (.int .i64 ((rd_T70 x3_1 (ji7)).f1.f1))/\w'.cell? ⟨(ad165.add (((ji7)).toNat*4)).block,(ad165.add (((ji7)).toNat*4)).off+3,none⟩=some (.int .i64 ((rd_T70 x3_1 (ji7)).f2))) (ds:=[]) #[f_,f_,f_,f_,f_,f_,f_,f_,f_] (by kernel_rfl) rfl rfl ⟨((HB.out.cell (World.block_lt_of_cell? w _ hw164_0)).trans hw164_0),((HB.out.cell (World.block_lt_of_cell? w _ hw164_1)).trans hw164_1),((HB.out.cell (World.block_lt_of_cell? w _ hw164_2)).trans hw164_2),((HB.out.cell (World.block_lt_of_cell? w _ hw164_3)).trans hw164_3),hx165_0,hx165_1,hx165_2,hx165_3⟩ (fun hHeld=> ?_);refine with_tabW leatref11_Sort.tab8 leatref11_Sort.bits8 (fun HT_ HW_=> ?_);generalize wr.drew=w14 at HO_3 HB hx164_0 hx164_1 hx164_2 hx164_3 hx165_0 hx165_1 hx165_2 hx165_3 hHeld ⊢;refine pure_ (i:=0) (N:=some 24) (v:= ?_) (a' := ?_) #[t_,f_,f_,f_,f_,f_,f_,f_,f_] rfl rfl (any_of HT_.out (by kernel_rfl)) (fun _ _ _ h=>h) (Or.inl ⟨by rfl,?_⟩) ?_ ?_;rotate_left
            ·intro w';go_simp
             with_reducible rfl
            rotate_left
            ·simp only[Act.put,za,zb,zc,i64_w,i32_w];rfl
            refine pure_ (i:=1) (N:=some 25) (v:= ?_) (a' := ?_) #[t_,t_,f_,f_,f_,f_,f_,f_,f_] rfl rfl (any_of HT_.out (by kernel_rfl)) (fun _ _ _ h=>h) (Or.inl ⟨by rfl,?_⟩) ?_ ?_;rotate_left
            ·intro w';go_simp
             with_reducible rfl
            rotate_left
            ·simp only[Act.put,za,zb,zc,i64_w,i32_w];rfl
            refine pure_ (i:=2) (N:=some 26) (v:= ?_) (a' := ?_) #[t_,t_,t_,f_,f_,f_,f_,f_,f_] rfl rfl (any_of HT_.out (by kernel_rfl)) (fun _ _ _ h=>h) (Or.inl ⟨by rfl,?_⟩) ?_ ?_;rotate_left
            ·intro w';go_simp
             with_reducible rfl
            rotate_left
            ·simp only[Act.put,za,zb,zc,i64_w,i32_w];rfl
            refine pure_ (i:=4) (N:=some 28) (v:= ?_) (a' := ?_) #[t_,t_,t_,f_,t_,f_,f_,f_,f_] rfl rfl (any_of HT_.out (by kernel_rfl)) (fun _ _ _ h=>h) (Or.inl ⟨by rfl,?_⟩) ?_ ?_;rotate_left
            ·intro w';go_simp
             with_reducible rfl
            rotate_left
            ·simp only[Act.put,za,zb,zc,i64_w,i32_w];rfl
            refine pure_ (i:=5) (N:=some 29) (v:= ?_) (a' := ?_) #[t_,t_,t_,f_,t_,t_,f_,f_,f_] rfl rfl (any_of HT_.out (by kernel_rfl)) (fun _ _ _ h=>h) (Or.inl ⟨by rfl,?_⟩) ?_ ?_;rotate_left
            ·intro w';go_simp
             with_reducible rfl
            rotate_left
            ·simp only[Act.put,za,zb,zc,i64_w,i32_w];rfl
            refine pure_ (i:=6) (N:=some 30) (v:= ?_) (a' := ?_) #[t_,t_,t_,f_,t_,t_,t_,f_,f_] rfl rfl (any_of HT_.out (by kernel_rfl)) (fun _ _ _ h=>h) (Or.inl ⟨by rfl,?_⟩) ?_ ?_;rotate_left
            ·intro w';go_simp
             with_reducible rfl
            rotate_left
            ·simp only[Act.put,za,zb,zc,i64_w,i32_w];rfl
            refine take_ (i:=3) (N:=some 27) (v:= ?_) (a' := ?_) #[t_,t_,t_,t_,t_,t_,t_,f_,f_] rfl rfl (take_ofW HT_.out HW_.out (by kernel_rfl)) (fun _ _ _ h=>h) (Or.inl ⟨by rfl,?_⟩) hHeld ?_ ?_;rotate_left
            ·rintro w' ⟨s0,s1,s2,s3,s4,s5,s6,s7⟩;go_simp
             with_reducible rfl
            rotate_left
            ·simp only[Act.put,za,zb,zc,i64_w,i32_w];rfl
            refine take_ (i:=7) (N:=some 31) (v:= ?_) (a' := ?_) #[t_,t_,t_,t_,t_,t_,t_,t_,f_] rfl rfl (take_ofW HT_.out HW_.out (by kernel_rfl)) (fun _ _ _ h=>h) (Or.inl ⟨by rfl,?_⟩) hHeld ?_ ?_;rotate_left
            ·rintro w' ⟨s0,s1,s2,s3,s4,s5,s6,s7⟩;go_simp
             with_reducible rfl
            rotate_left
            ·simp only[Act.put,za,zb,zc,i64_w,i32_w];rfl
            refine one_ (i:=8) (N:=some 32) #[t_,t_,t_,t_,t_,t_,t_,t_,t_] rfl rfl (one_of HT_.out (by kernel_rfl)) (by decide) (fun K hK=> ?_);refine goes_ Try.func51 (by kernel_rfl) rfl #[.agg #[.int .i64 ((rd_T70 l0 x4_1).f0),.int .i64 ((rd_T70 l0 x4_1).f1.f0),.int .i64 ((rd_T70 l0 x4_1).f1.f1),.int .i64 ((rd_T70 l0 x4_1).f2)],.agg #[.int .i64 ((rd_T70 x3_1 (ji7)).f0),.int .i64 ((rd_T70 x3_1 (ji7)).f1.f0),.int .i64 ((rd_T70 x3_1 (ji7)).f1.f1),.int .i64 ((rd_T70 x3_1 (ji7)).f2)]] (by rfl) rfl rfl (by(try simp only[List.map_toArray,List.map_cons,List.map_nil]);first|done|(simp only[hji7];rfl)|rfl|(simp only[List.length_drop,List.length_take];rfl)) ?_
            with_reducible refine(leatref11_less.calls ((rd_T70 l0 x4_1).f0) ((rd_T70 l0 x4_1).f1.f0) ((rd_T70 l0 x4_1).f1.f1) ((rd_T70 l0 x4_1).f2) ((rd_T70 x3_1 (ji7)).f0) ((rd_T70 x3_1 (ji7)).f1.f0) ((rd_T70 x3_1 (ji7)).f1.f1) ((rd_T70 x3_1 (ji7)).f2) false _ A10.out).mono ?_
            rintro e w15 ⟨rfl,hb⟩;have HS4_:=(hb.cell (World.block_lt_of_cell? _ _ (hHeld.2.2.2.2.1))).trans (hHeld.2.2.2.2.1);have HS5_:=(hb.cell (World.block_lt_of_cell? _ _ (hHeld.2.2.2.2.2.1))).trans (hHeld.2.2.2.2.2.1);have HS6_:=(hb.cell (World.block_lt_of_cell? _ _ (hHeld.2.2.2.2.2.2.1))).trans (hHeld.2.2.2.2.2.2.1);have HS7_:=(hb.cell (World.block_lt_of_cell? _ _ (hHeld.2.2.2.2.2.2.2))).trans (hHeld.2.2.2.2.2.2.2);refine⟨_,rfl,?_⟩;have n0_:=zd (zr (by(with_reducible repeat (first|apply ze|apply zf|apply zg));exact HO_3.out) hb);have n1_:=zd (zs (by repeat (first|(with_reducible first|exact HB.out|apply zh|apply zi|apply zj)|exact HB.out)) hb);clear HO_3;clear HB;have HO_3:=n0_;have HB:=n1_;clear n0_ n1_
            (try clear hb)
            (try clear hb2)
            (try clear hk)
            (try clear hi)
            refine hK.out _ _ ⟨((HB.out.cell (World.block_lt_of_cell? w _ hw164_0)).trans hw164_0),((HB.out.cell (World.block_lt_of_cell? w _ hw164_1)).trans hw164_1),((HB.out.cell (World.block_lt_of_cell? w _ hw164_2)).trans hw164_2),((HB.out.cell (World.block_lt_of_cell? w _ hw164_3)).trans hw164_3),HS4_,HS5_,HS6_,HS7_⟩ (fun hHeld=> ?_);clear hK K;refine norm_ (a' := ?_) ?_ ?_;rotate_left
            ·show Act.put _ (some 32) _=_;simp only[Act.put,za,zb,zc,i64_w,i32_w];rfl
            refine done_ (done_of HT_.out (by kernel_rfl)) ?_
            try go_wp2
            go_roundg k2
            case measure=>have:=HK1.out;have:=HK2.out;omega
            case rel=>exact⟨(wrap64 ((ji7)+1)),(x6_2),(by first|rfl|(simp;done)|(simp only[←hji7]<;>(first|rfl|simp))|(simp[*];done)),(by first|rfl|(simp;done)|(simp[*];done)),H',⟨by have:=HK1.out;have:=HK2.out;omega⟩,⟨by(with_reducible repeat (first|apply ze|apply zf|apply zg));exact HO_3.out⟩,⟨by repeat (first|(with_reducible first|exact HB.out|apply zh|apply zi|apply zj)|exact HB.out)⟩⟩
          ·rw[if_neg c9] at H;exact absurd H (by simp)
         ·rw[if_neg c8] at H;exact absurd H (by simp)
        ·rw[if_neg c6] at H;exact absurd H (by simp)
       ·rw[if_neg c5] at H;exact absurd H (by simp)
      ·rw [if_neg c4] at H;have c4b0:decide (x5_2<x6_2)=false:=decide_eq_false c4;clear c4;by_cases c16:x3_1.length<4398046511104
       ·rw [if_pos c16] at H;have LMc16:=zd c16;clear c16;obtain⟨y167,hy167⟩: ∃y_:List (S70),y_=(x3_1++[(⟨0,(⟨0,0⟩:S68),0⟩:S70)]):=⟨_,rfl⟩
        replace H:(leatref11_Sort.l2 k2 l0 y167 x4_1 x5_2 (wrap64 ((y167.length:Int)-1)))=some r:=by first|(rw[hy167];with_reducible exact H)|(have H2_:=(Option.bind_some _ _).symm.trans H;rw[hy167];with_reducible exact H2_)|(have H2_:=(Option.bind_some _ _).symm.trans H;with_reducible exact H2_)|with_reducible exact H|(rw[hy167];exact H)|exact H
        have Ny167:=zd hy167;clear hy167;have H' :=zd H;clear H;go_wp2_with (first|((with_reducible refine gate_builtin (b:= .append) (xs:= #[.tmp 36,.tmp 38]) rfl ?_);at_builtin;refine Kd.R_append k70 (w0:=w) w.heap.size rfl (.tmp 36) (.tmp 38) 44 70 (.agg #[(.int .i64 0),(.int .i64 0),(.int .i64 0),(.int .i64 0)]) 32 rfl Try.underlying44 info70 rfl (by decide) (by omega) (.slice Ao3 x3_1.length co3) x3_1 (⟨0,(⟨0,0⟩:S68),0⟩:S70) [.int .i64 0,.int .i64 0,.int .i64 0,.int .i64 0] (fun _=>True) (fun _=>False) rfl rfl ?aP (fun _ hk=>hk.elim) ?aF ?aO ?aB ?aS ?aL ?_;(case aP=>exact k70_mkM _ _ _ (⟨0,(⟨0,0⟩:S68),0⟩:S70));(case aB=>exact(by repeat (first|(with_reducible first|exact HB.out|apply zh|apply zi|apply zj)|exact HB.out)));(case aF=>exact(fun _ _=>trivial));(case aO=>exact(by(with_reducible repeat (first|apply ze|apply zf|apply zg));exact HO_3.out));(case aS=>exact(below_size (by repeat (first|(with_reducible first|exact HB.out|apply zh|apply zi|apply zj)|exact HB.out))));(case aL=>have:=LMc16.out;omega);intro v168 w17 ho hb hg hat;rw[←Ny167.out] at ho;have n0_:=zd (hb);have n1_:=zd (ho);clear HB;clear HO_3;have HB:=n0_;have HO169:=n1_;clear n0_ n1_;clear ho hb hg hat;obtain⟨Ao18,co18,eo18⟩:=Kd.R_slice HO169.out;subst eo18));go_loopg [8] k2 (fun kq v8 w'=> ∃(x3_3:List (S70)) (x8_3:Int),v8= .int .i64 x8_3/\Aside0 (leatref11_Sort.l2 kq l0 x3_3 x4_1 x5_2 x8_3=some r)/\Aside0 (kq<=k2)/\Aside0 (Kd.R k70 70 w' w.heap.size (fun _=>True) (.slice Ao18 y167.length co18) x3_3)/\Aside0 (Below w.heap.size w w'))
        case atStart=>exact⟨(y167),(wrap64 ((y167.length:Int)-1)),(by first|rfl|(simp;done)|(simp[*];done)),H',⟨Nat.le_refl _⟩,⟨by(with_reducible repeat (first|apply ze|apply zf|apply zg));exact HO169.out⟩,⟨by repeat (first|(with_reducible first|exact HB.out|apply zh|apply zi|apply zj)|exact HB.out)⟩⟩
        case round=>
         clear H'
         try clear c1;try clear p1;try clear q1;try clear hx1;try clear c2;try clear c2b0;try clear p2;try clear c4;try clear c4b0;try clear c5;try clear c5b0;try clear c6;try clear c6b0;try clear p6;try clear c8;try clear c8b0;try clear c9;try clear c9b0;try clear c11;try clear c16;try clear p16;try clear q16;try clear hx16;try clear hx164_0;try clear hx164_1;try clear hx164_2;try clear hx164_3;try clear hx165_0;try clear hx165_1;try clear hx165_2;try clear hx165_3;try clear p164;try clear p165;try clear p2;try clear q164;try clear q165
         obtain⟨x3_3,x8_3,rfl,HA,HK3,HO_3,HB⟩:=hrel;have hl3_3:=(Kd.R_reads' HO_3.out).1;rw[hl3_3] at HO_3
         (try simp only[hl3_3])
         cases gk with
         |zero=>exact absurd HA.out (by simp[leatref11_Sort.l2])
         | succ k3=>
          have H:=HA.out;clear HA;simp only[leatref11_Sort.l2] at H;by_cases c19:x8_3>x5_2
          ·rw [if_pos c19] at H;have c19b0:decide (x5_2<x8_3)=true:=decide_eq_true c19;clear c19;obtain⟨ji20,hji20⟩: ∃j_:Int,(wrap64 (x8_3-1))=j_:=⟨_,rfl⟩
           replace H:(if 0<=(ji20) then(if (ji20)<(x3_3.length:Int) then(if 0<=x8_3 then(if x8_3<(x3_3.length:Int) then(leatref11_Sort.l2 k3 l0 (x3_3.set (x8_3:Int).toNat (⟨(rd_T70 x3_3 (ji20)).f0,(⟨(rd_T70 x3_3 (ji20)).f1.f0,(rd_T70 x3_3 (ji20)).f1.f1⟩:S68),(rd_T70 x3_3 (ji20)).f2⟩:S70)) x4_1 x5_2 ji20) else(none)) else(none)) else(none)) else(none))=some r:=by first|(rw[hji20] at H;exact H)|(simp only[hji20] at H ⊢;exact H)
           have hji20w:(IntKind.i64.wrap (x8_3-1))=ji20:=(i64_w _).trans hji20;by_cases c21:0<=(ji20)
           ·rw [if_pos c21] at H;have c21b0:decide (0<=(ji20))=true:=decide_eq_true c21;clear c21;by_cases c22:(ji20)<(x3_3.length:Int)
            ·rw[if_pos c22] at H;have c22b0:decide ((ji20)<(x3_3.length:Int))=true:=decide_eq_true c22;clear c22;by_cases c23:0<=x8_3
             ·rw[if_pos c23] at H;have c23b0:decide (0<=x8_3)=true:=decide_eq_true c23;clear c23;by_cases c24:x8_3<(x3_3.length:Int)
              ·rw[if_pos c24] at H;have c24b0:decide (x8_3<(x3_3.length:Int))=true:=decide_eq_true c24;clear c24;obtain⟨y171,hy171⟩: ∃y_:List (S70),y_=(x3_3.set (x8_3:Int).toNat (⟨(rd_T70 x3_3 (ji20)).f0,(⟨(rd_T70 x3_3 (ji20)).f1.f0,(rd_T70 x3_3 (ji20)).f1.f1⟩:S68),(rd_T70 x3_3 (ji20)).f2⟩:S70)):=⟨_,rfl⟩
               replace H:(leatref11_Sort.l2 k3 l0 y171 x4_1 x5_2 ji20)=some r:=by first|(rw[hy171];with_reducible exact H)|(have H2_:=(Option.bind_some _ _).symm.trans H;rw[hy171];with_reducible exact H2_)|(have H2_:=(Option.bind_some _ _).symm.trans H;with_reducible exact H2_)|with_reducible exact H|(rw[hy171];exact H)|exact H
               have Ny171:=zd hy171;clear hy171;have H' :=zd H;clear H;have p170:0<=((ji20):Int):=of_decide_eq_true (by first|(with_reducible assumption)|assumption);have q170:(ji20)<(x3_3.length:Int):=of_decide_eq_true (by first|(with_reducible assumption)|assumption);obtain⟨ad170,e170,hx170_0,hx170_1,hx170_2,hx170_3⟩:=at_T70 (Kd.R_reads' HO_3.out).2.2 (ji20) p170 q170;cases e170;replace p170:=eq_true p170;replace q170:=eq_true q170;have p25:0<=(x8_3:Int):=of_decide_eq_true (by first|(with_reducible assumption)|assumption);have q25:(x8_3:Int)<((x3_3.length:Int):Int):=of_decide_eq_true (by first|(with_reducible assumption)|assumption);obtain⟨go25,co25,eo25,gb25,gl25,cl25,HG25⟩:=Kd.R_form HO_3.out (by omega)
               (first|cases eo25|(injection eo25 with ea_ en_ ec_;(first|subst ea_|(injection ea_ with ea_;subst ea_));subst ec_;clear en_))
               have GB25:=zd gb25;have GG25:=zd HG25;clear gb25 gl25 HG25
               (first|simp only[add_plain] at hx170_0|skip)
               (first|simp only[add_plain] at hx170_1|skip)
               (first|simp only[add_plain] at hx170_2|skip)
               (first|simp only[add_plain] at hx170_3|skip)
               obtain⟨ce25,hcl25,hM25,hcc25,hfr25⟩:=Kd.R_elem HO_3.out z70 (x8_3:Int) p25 q25;obtain rfl:=k70_openM hM25;have hx25_0:wr.cell? ⟨go25,(x8_3:Int).toNat*4,none⟩=some (.int .i64 ((rd_T70 x3_3 x8_3).f0)):=hcc25 0 _ rfl;have hx25_1:wr.cell? ⟨go25,(x8_3:Int).toNat*4+1,none⟩=some (.int .i64 ((rd_T70 x3_3 x8_3).f1.f0)):=hcc25 1 _ rfl;have hx25_2:wr.cell? ⟨go25,(x8_3:Int).toNat*4+2,none⟩=some (.int .i64 ((rd_T70 x3_3 x8_3).f1.f1)):=hcc25 2 _ rfl;have hx25_3:wr.cell? ⟨go25,(x8_3:Int).toNat*4+3,none⟩=some (.int .i64 ((rd_T70 x3_3 x8_3).f2)):=hcc25 3 _ rfl;have hf25_0:wr.frozen? ⟨go25,(x8_3:Int).toNat*4,none⟩=false:=hfr25 0;have hf25_1:wr.frozen? ⟨go25,(x8_3:Int).toNat*4+1,none⟩=false:=hfr25 1;have hf25_2:wr.frozen? ⟨go25,(x8_3:Int).toNat*4+2,none⟩=false:=hfr25 2;have hf25_3:wr.frozen? ⟨go25,(x8_3:Int).toNat*4+3,none⟩=false:=hfr25 3;clear hcl25 hcc25 hfr25 hM25;replace p25:=eq_true p25;replace q25:=eq_true q25;have HX26:=zd (show Kd.R k70 70 wr w.heap.size (fun _=>True) (.slice (some ⟨go25,0,none⟩) x3_3.length co18) x3_3 from(by(with_reducible repeat (first|apply ze|apply zf|apply zg));exact HO_3.out));obtain⟨ce26,hcl26,hM26,hcc26,hfr26⟩:=Kd.R_elem HX26.out z70 (x8_3:Int) (of_decide_eq_true (by first|(with_reducible assumption)|assumption)) (by have h_:(x8_3:Int)<((x3_3.length:Int):Int):=of_decide_eq_true (by first|(with_reducible assumption)|assumption);first|exact h_|(have e_:=(Kd.R_reads' HO_3.out).1;omega)|simpa using h_);obtain rfl:=k70_openM hM26;have HP26:=Kd.R_seg HX26.out (x8_3:Int) (of_decide_eq_true (by first|(with_reducible assumption)|assumption)) (by have h_:(x8_3:Int)<((x3_3.length:Int):Int):=of_decide_eq_true (by first|(with_reducible assumption)|assumption);first|exact h_|(have e_:=(Kd.R_reads' HO_3.out).1;omega)|simpa using h_) (seg:=[.int .i64 ((rd_T70 x3_3 (ji20)).f0),.int .i64 ((rd_T70 x3_3 (ji20)).f1.f0),.int .i64 ((rd_T70 x3_3 (ji20)).f1.f1),.int .i64 ((rd_T70 x3_3 (ji20)).f2)]) (j:=0) hcl26 hcc26 (show 4<=4 from by decide) (x' :=(⟨(rd_T70 x3_3 (ji20)).f0,(⟨(rd_T70 x3_3 (ji20)).f1.f0,(rd_T70 x3_3 (ji20)).f1.f1⟩:S68),(rd_T70 x3_3 (ji20)).f2⟩:S70)) (k70_mkM _ _ _ (⟨(rd_T70 x3_3 (ji20)).f0,(⟨(rd_T70 x3_3 (ji20)).f1.f0,(rd_T70 x3_3 (ji20)).f1.f1⟩:S68),(rd_T70 x3_3 (ji20)).f2⟩:S70)) (fun _ hk=>hk);have hx26_0:=hcc26 0 _ rfl
               (try simp only[show(k70).sz=4 from rfl,Nat.mul_one,Nat.add_zero] at hx26_0)
               have hf26_0:=hfr26 0
               (try simp only[show(k70).sz=4 from rfl,Nat.mul_one,Nat.add_zero] at hf26_0)
               have hx26_1:=hcc26 1 _ rfl
               (try simp only[show(k70).sz=4 from rfl,Nat.mul_one,Nat.add_zero] at hx26_1)
               have hf26_1:=hfr26 1
               (try simp only[show(k70).sz=4 from rfl,Nat.mul_one,Nat.add_zero] at hf26_1)
               have hx26_2:=hcc26 2 _ rfl
               (try simp only[show(k70).sz=4 from rfl,Nat.mul_one,Nat.add_zero] at hx26_2)
               have hf26_2:=hfr26 2
               (try simp only[show(k70).sz=4 from rfl,Nat.mul_one,Nat.add_zero] at hf26_2)
               have hx26_3:=hcc26 3 _ rfl
               (try simp only[show(k70).sz=4 from rfl,Nat.mul_one,Nat.add_zero] at hx26_3)
               have hf26_3:=hfr26 3
               (try simp only[show(k70).sz=4 from rfl,Nat.mul_one,Nat.add_zero] at hf26_3)
               clear hcl26 hcc26 hfr26 hM26;go_wp2_with (first|((with_reducible refine gate_store (t:=70) (p:=55) rfl ?_);refine store_event (t:=70) (p:=55) (v:= ?vo_w27) (w1:=((((wr.setCell ⟨go25,(x8_3:Int).toNat*4,none⟩ (.int .i64 ((rd_T70 x3_3 (ji20)).f0))).setCell ⟨go25,(x8_3:Int).toNat*4+1,none⟩ (.int .i64 ((rd_T70 x3_3 (ji20)).f1.f0))).setCell ⟨go25,(x8_3:Int).toNat*4+2,none⟩ (.int .i64 ((rd_T70 x3_3 (ji20)).f1.f1))).setCell ⟨go25,(x8_3:Int).toNat*4+3,none⟩ (.int .i64 ((rd_T70 x3_3 (ji20)).f2)))) ?hg ?ho ?hn ?hr ?_;(case ho=>rfl);(case hg=>rfl);(case hn=>rfl);(case hr=>first|(go_simp;done)|(go_simp;rfl));intro w27 hw;have hg:wr.grownBy w27 (some go25):=(by rw[hw];exact HP26.2);have hp_:Kd.R k70 70 w27 w.heap.size (fun _=>True) (.slice (some ⟨go25,0,none⟩) x3_3.length co18) y171:=(by rw[hw,Ny171.out];exact HP26.1);clear HP26;have n0_:=zd (hp_);have n1_:=zd ((by rw[hw];exact zn (zn (zn (zn (HB.out) GB25.out) GB25.out) GB25.out) GB25.out:Below w.heap.size w w27));clear HO_3;clear HB;have HO_3:=n0_;have HB:=n1_;clear n0_ n1_;clear hg hw hp_))
               (try simp only[←hl3_3])
               go_roundg k3
               case measure=>have:=HK1.out;have:=HK2.out;have:=HK3.out;omega
               case rel=>exact⟨(y171),(ji20),(by first|rfl|(simp;done)|(simp only[←hji20]<;>(first|rfl|simp))|(simp[*];done)),H',⟨by have:=HK1.out;have:=HK2.out;have:=HK3.out;omega⟩,⟨by(try simp only[hl3_3]);(with_reducible repeat (first|apply ze|apply zf|apply zg));exact HO_3.out⟩,⟨by repeat (first|(with_reducible first|exact HB.out|apply zh|apply zi|apply zj)|exact HB.out)⟩⟩
              ·rw[if_neg c24] at H;exact absurd H (by simp)
             ·rw[if_neg c23] at H;exact absurd H (by simp)
            ·rw[if_neg c22] at H;exact absurd H (by simp)
           ·rw[if_neg c21] at H;exact absurd H (by simp)
          ·rw [if_neg c19] at H;have c19b0:decide (x5_2<x8_3)=false:=decide_eq_false c19;clear c19;by_cases c28:0<=x4_1
           ·rw [if_pos c28] at H;have c28b0:decide (0<=x4_1)=true:=decide_eq_true c28;clear c28;by_cases c29:x4_1<(l0.length:Int)
            ·rw[if_pos c29] at H;have c29b0:decide (x4_1<(l0.length:Int))=true:=decide_eq_true c29;clear c29;by_cases c30:0<=x5_2
             ·rw[if_pos c30] at H;have c30b0:decide (0<=x5_2)=true:=decide_eq_true c30;clear c30;by_cases c31:x5_2<(x3_3.length:Int)
              ·rw[if_pos c31] at H;have c31b0:decide (x5_2<(x3_3.length:Int))=true:=decide_eq_true c31;clear c31;obtain⟨y173,hy173⟩: ∃y_:List (S70),y_=(x3_3.set (x5_2:Int).toNat (⟨(rd_T70 l0 x4_1).f0,(⟨(rd_T70 l0 x4_1).f1.f0,(rd_T70 l0 x4_1).f1.f1⟩:S68),(rd_T70 l0 x4_1).f2⟩:S70)):=⟨_,rfl⟩
               replace H:(leatref11_Sort.l0 k3 l0 y173 (wrap64 (x4_1+1)))=some r:=by first|(rw[hy173];with_reducible exact H)|(have H2_:=(Option.bind_some _ _).symm.trans H;rw[hy173];with_reducible exact H2_)|(have H2_:=(Option.bind_some _ _).symm.trans H;with_reducible exact H2_)|with_reducible exact H|(rw[hy173];exact H)|exact H
               have Ny173:=zd hy173;clear hy173;have H' :=zd H;clear H;have p172:0<=(x4_1:Int):=of_decide_eq_true (by first|(with_reducible assumption)|assumption);have q172:x4_1<(l0.length:Int):=of_decide_eq_true (by first|(with_reducible assumption)|assumption);obtain⟨ad172,e172,hx172_0,hx172_1,hx172_2,hx172_3⟩:=at_T70 HR0.out x4_1 p172 q172;cases e172;replace hx172_0:=(HB.out.cell (World.block_lt_of_cell? w _ hx172_0)).trans hx172_0;replace hx172_1:=(HB.out.cell (World.block_lt_of_cell? w _ hx172_1)).trans hx172_1;replace hx172_2:=(HB.out.cell (World.block_lt_of_cell? w _ hx172_2)).trans hx172_2;replace hx172_3:=(HB.out.cell (World.block_lt_of_cell? w _ hx172_3)).trans hx172_3;replace p172:=eq_true p172;replace q172:=eq_true q172;have p32:0<=(x5_2:Int):=of_decide_eq_true (by first|(with_reducible assumption)|assumption);have q32:(x5_2:Int)<((x3_3.length:Int):Int):=of_decide_eq_true (by first|(with_reducible assumption)|assumption);obtain⟨go32,co32,eo32,gb32,gl32,cl32,HG32⟩:=Kd.R_form HO_3.out (by omega)
               (first|cases eo32|(injection eo32 with ea_ en_ ec_;(first|subst ea_|(injection ea_ with ea_;subst ea_));subst ec_;clear en_))
               have GB32:=zd gb32;have GG32:=zd HG32;clear gb32 gl32 HG32;obtain⟨ce32,hcl32,hM32,hcc32,hfr32⟩:=Kd.R_elem HO_3.out z70 (x5_2:Int) p32 q32;obtain rfl:=k70_openM hM32;have hx32_0:wr.cell? ⟨go32,(x5_2:Int).toNat*4,none⟩=some (.int .i64 ((rd_T70 x3_3 x5_2).f0)):=hcc32 0 _ rfl;have hx32_1:wr.cell? ⟨go32,(x5_2:Int).toNat*4+1,none⟩=some (.int .i64 ((rd_T70 x3_3 x5_2).f1.f0)):=hcc32 1 _ rfl;have hx32_2:wr.cell? ⟨go32,(x5_2:Int).toNat*4+2,none⟩=some (.int .i64 ((rd_T70 x3_3 x5_2).f1.f1)):=hcc32 2 _ rfl;have hx32_3:wr.cell? ⟨go32,(x5_2:Int).toNat*4+3,none⟩=some (.int .i64 ((rd_T70 x3_3 x5_2).f2)):=hcc32 3 _ rfl;have hf32_0:wr.frozen? ⟨go32,(x5_2:Int).toNat*4,none⟩=false:=hfr32 0;have hf32_1:wr.frozen? ⟨go32,(x5_2:Int).toNat*4+1,none⟩=false:=hfr32 1;have hf32_2:wr.frozen? ⟨go32,(x5_2:Int).toNat*4+2,none⟩=false:=hfr32 2;have hf32_3:wr.frozen? ⟨go32,(x5_2:Int).toNat*4+3,none⟩=false:=hfr32 3;clear hcl32 hcc32 hfr32 hM32;replace p32:=eq_true p32;replace q32:=eq_true q32;have HX33:=zd (show Kd.R k70 70 wr w.heap.size (fun _=>True) (.slice (some ⟨go32,0,none⟩) x3_3.length co18) x3_3 from(by(with_reducible repeat (first|apply ze|apply zf|apply zg));exact HO_3.out));obtain⟨ce33,hcl33,hM33,hcc33,hfr33⟩:=Kd.R_elem HX33.out z70 (x5_2:Int) (of_decide_eq_true (by first|(with_reducible assumption)|assumption)) (by have h_:(x5_2:Int)<((x3_3.length:Int):Int):=of_decide_eq_true (by first|(with_reducible assumption)|assumption);first|exact h_|(have e_:=(Kd.R_reads' HO_3.out).1;omega)|simpa using h_);obtain rfl:=k70_openM hM33;have HP33:=Kd.R_seg HX33.out (x5_2:Int) (of_decide_eq_true (by first|(with_reducible assumption)|assumption)) (by have h_:(x5_2:Int)<((x3_3.length:Int):Int):=of_decide_eq_true (by first|(with_reducible assumption)|assumption);first|exact h_|(have e_:=(Kd.R_reads' HO_3.out).1;omega)|simpa using h_) (seg:=[.int .i64 ((rd_T70 l0 x4_1).f0),.int .i64 ((rd_T70 l0 x4_1).f1.f0),.int .i64 ((rd_T70 l0 x4_1).f1.f1),.int .i64 ((rd_T70 l0 x4_1).f2)]) (j:=0) hcl33 hcc33 (show 4<=4 from by decide) (x' :=(⟨(rd_T70 l0 x4_1).f0,(⟨(rd_T70 l0 x4_1).f1.f0,(rd_T70 l0 x4_1).f1.f1⟩:S68),(rd_T70 l0 x4_1).f2⟩:S70)) (k70_mkM _ _ _ (⟨(rd_T70 l0 x4_1).f0,(⟨(rd_T70 l0 x4_1).f1.f0,(rd_T70 l0 x4_1).f1.f1⟩:S68),(rd_T70 l0 x4_1).f2⟩:S70)) (fun _ hk=>hk);have hx33_0:=hcc33 0 _ rfl
               (try simp only[show(k70).sz=4 from rfl,Nat.mul_one,Nat.add_zero] at hx33_0)
               have hf33_0:=hfr33 0
               (try simp only[show(k70).sz=4 from rfl,Nat.mul_one,Nat.add_zero] at hf33_0)
               have hx33_1:=hcc33 1 _ rfl
               (try simp only[show(k70).sz=4 from rfl,Nat.mul_one,Nat.add_zero] at hx33_1)
               have hf33_1:=hfr33 1
               (try simp only[show(k70).sz=4 from rfl,Nat.mul_one,Nat.add_zero] at hf33_1)
               have hx33_2:=hcc33 2 _ rfl
               (try simp only[show(k70).sz=4 from rfl,Nat.mul_one,Nat.add_zero] at hx33_2)
               have hf33_2:=hfr33 2
               (try simp only[show(k70).sz=4 from rfl,Nat.mul_one,Nat.add_zero] at hf33_2)
               have hx33_3:=hcc33 3 _ rfl
               (try simp only[show(k70).sz=4 from rfl,Nat.mul_one,Nat.add_zero] at hx33_3)
               have hf33_3:=hfr33 3
               (try simp only[show(k70).sz=4 from rfl,Nat.mul_one,Nat.add_zero] at hf33_3)
               clear hcl33 hcc33 hfr33 hM33;go_wp2_with (first|((with_reducible refine gate_store (t:=70) (p:=62) rfl ?_);refine store_event (t:=70) (p:=62) (v:= ?vo_w34) (w1:=((((wr.setCell ⟨go32,(x5_2:Int).toNat*4,none⟩ (.int .i64 ((rd_T70 l0 x4_1).f0))).setCell ⟨go32,(x5_2:Int).toNat*4+1,none⟩ (.int .i64 ((rd_T70 l0 x4_1).f1.f0))).setCell ⟨go32,(x5_2:Int).toNat*4+2,none⟩ (.int .i64 ((rd_T70 l0 x4_1).f1.f1))).setCell ⟨go32,(x5_2:Int).toNat*4+3,none⟩ (.int .i64 ((rd_T70 l0 x4_1).f2)))) ?hg ?ho ?hn ?hr ?_;(case ho=>rfl);(case hg=>rfl);(case hn=>rfl);(case hr=>first|(go_simp;done)|(go_simp;rfl));intro w34 hw;have hg:wr.grownBy w34 (some go32):=(by rw[hw];exact HP33.2);have hp_:Kd.R k70 70 w34 w.heap.size (fun _=>True) (.slice (some ⟨go32,0,none⟩) x3_3.length co18) y173:=(by rw[hw,Ny173.out];exact HP33.1);clear HP33;have n0_:=zd (hp_);have n1_:=zd ((by rw[hw];exact zn (zn (zn (zn (HB.out) GB32.out) GB32.out) GB32.out) GB32.out:Below w.heap.size w w34));clear HO_3;clear HB;have HO_3:=n0_;have HB:=n1_;clear n0_ n1_;clear hg hw hp_))
               (try simp only[←hl3_3])
               go_roundg k3
               case measure=>have:=HK1.out;have:=HK2.out;have:=HK3.out;omega
               case rel=>exact⟨(y173),(wrap64 (x4_1+1)),(by first|rfl|(simp;done)|(simp[*];done)),H',⟨by have:=HK1.out;have:=HK2.out;have:=HK3.out;omega⟩,⟨by(try simp only[hl3_3]);(with_reducible repeat (first|apply ze|apply zf|apply zg));exact HO_3.out⟩,⟨by repeat (first|(with_reducible first|exact HB.out|apply zh|apply zi|apply zj)|exact HB.out)⟩⟩
              ·rw[if_neg c31] at H;exact absurd H (by simp)
             ·rw[if_neg c30] at H;exact absurd H (by simp)
            ·rw[if_neg c29] at H;exact absurd H (by simp)
           ·rw[if_neg c28] at H;exact absurd H (by simp)
       ·rw[if_neg c16] at H;exact absurd H (by simp)
   ·rw[if_neg c2] at H;have c2b0:decide (x4_1<(l0.length:Int))=false:=decide_eq_false c2;clear c2;obtain rfl:=Option.some.inj H;go_wp2;go_ret;exact⟨_,by first|rfl|(simp[errW_none,errW_some]<;>rfl)|(simp[*,errW_none,errW_some]<;>rfl),by(with_reducible repeat (first|apply ze|apply zf|apply zg));exact HO_3.out,by repeat (first|(with_reducible first|exact HB.out|apply zh|apply zi|apply zj)|exact HB.out)⟩
end Go.Proofs.Ytjegeghigfmkoaa.X
namespace Go.Proofs.Ytjegeghigfmkoaa.X
open Go.RowKit Go.Proofs.YtjegeghigfmkoaaW.PrintWords Go.Proofs.YtjegeghigfmkoaaW.PrintLast Go.Proofs.YtjegeghigfmkoaaW.PrintMore
attribute [local go_sem] max2_int min2_int max_two min_two max_three min_three max_four min_four   -- for this text's walks alone
set_option linter.unusedVariables false
set_option linter.unusedSimpArgs false
mutual
def leatref11_merge.l0:Nat ->Int ->List (S70) ->Int ->Int ->Int ->Int ->Option ((List (S70)))
 |0,_,_,_,_,_,_=>none
 |k+1,x0,x1,x178000,x178001,x178002,x178003=>leatref11_merge.l1 k x0 x1 ([]:List (S70)) false 0 x178000 x178001 x178002 x178003
def leatref11_merge.l1:Nat ->Int ->List (S70) ->List (S70) ->Bool ->Int ->Int ->Int ->Int ->Int ->Option ((List (S70)))
 |0,_,_,_,_,_,_,_,_,_=>none
 |k+1,x0,x1,x7,x8,x9,x178000,x178001,x178002,x178003=>if x9<(x1.length:Int) then(if 0<=x9 then(if ((rd_T70 x1 x9).f0)=x178000 then((leatref11_overlap.f ((rd_T70 x1 x9).f1.f0) ((rd_T70 x1 x9).f1.f1) x178001 x178002).bind fun t186=>(if t186=true then((leatref10_Merge.f k x0 x178003 ((rd_T70 x1 x9).f2)).bind fun t190=>(leatref11_merge.l1 k x0 x1 x7 true (wrap64 (x9+1)) x178000 (mn x178001 ((rd_T70 x1 x9).f1.f0)) (mx x178002 ((rd_T70 x1 x9).f1.f1)) t190)) else(if x7.length<4398046511104 then(leatref11_merge.l1 k x0 x1 (x7++[(⟨(rd_T70 x1 x9).f0,(⟨(rd_T70 x1 x9).f1.f0,(rd_T70 x1 x9).f1.f1⟩:S68),(rd_T70 x1 x9).f2⟩:S70)]) x8 (wrap64 (x9+1)) x178000 x178001 x178002 x178003) else(none)))) else(if x7.length<4398046511104 then(leatref11_merge.l1 k x0 x1 (x7++[(⟨(rd_T70 x1 x9).f0,(⟨(rd_T70 x1 x9).f1.f0,(rd_T70 x1 x9).f1.f1⟩:S68),(rd_T70 x1 x9).f2⟩:S70)]) x8 (wrap64 (x9+1)) x178000 x178001 x178002 x178003) else(none))) else(none)) else(if x8=true then(leatref11_merge.l0 k x0 x7 x178000 x178001 x178002 x178003) else(if x7.length<4398046511104 then((leatref11_Sort.f k (x7++[(⟨x178000,(⟨x178001,x178002⟩:S68),x178003⟩:S70)])).bind fun t181=>(some t181)) else(none)))
end
def leatref11_merge.f (k:Nat) (a0:Int) (l1:List (S70)) (a2_0:Int) (a2_1:Int) (a2_2:Int) (a2_3:Int):Option ((List (S70))):=leatref11_merge.l0 k a0 l1 a2_0 a2_1 a2_2 a2_3
def leatref11_merge.T6:Bool×List (List Nat×List Nat):=(true,[([],[]),([],[]),([0,1],[0,1]),([2],[2]),([3],[3]),([],[]),([5],[5]),([4,6],[4,6]),([7],[7]),([8],[8]),([8],[8]),([9,10,8],[8,9,10]),([11,8],[8,11]),([12,8],[8,12]),([8],[8]),([14,8],[8,14]),([13,15,8,8],[8,13,15]),([8,16],[8,16])])
def leatref11_merge.B6:List Nat:=[0,0,3,7,15,0,32,127,255,511,511,2047,4095,8191,511,16895,65535,131071]
theorem leatref11_merge.tab6:rtab .any (opsOf Try.f66 6)=leatref11_merge.T6:=by kernel_rfl
theorem leatref11_merge.bits6:waitsOk leatref11_merge.T6.2 leatref11_merge.B6=true:=by kernel_rfl
def leatref11_merge.T7:Bool×List (List Nat×List Nat):=(true,[([],[]),([0],[0]),([],[]),([2],[2]),([3],[3]),([],[]),([],[]),([5,6],[5,6]),([7],[7]),([8],[8]),([9],[9]),([4,10],[4,10]),([],[]),([12],[12]),([13],[13]),([],[]),([],[]),([15,16],[15,16]),([17],[17]),([18],[18]),([19],[19]),([14,20],[14,20]),([11,21],[11,21]),([],[]),([],[]),([24],[24]),([],[]),([],[]),([26,27],[26,27]),([28],[28]),([29],[29]),([23,25,30],[23,25,30]),([1,22,31],[1,22,31]),([32,31,0,1,2,3,4,5,6,7,8,9,10,11,12,13,14,15,16,17,18,19,20,21,22,23,24,25,26,27,28,29,30,31,32],[32])])
def leatref11_merge.B7:List Nat:=[0,1,0,4,12,0,0,96,224,480,992,2044,0,4096,12288,0,0,98304,229376,491520,1015808,2093056,4194300,0,0,16777216,0,0,201326592,469762048,1006632960,2139095040,4294967295,8589934591]
theorem leatref11_merge.tab7:rtab .any (opsOf Try.f66 7)=leatref11_merge.T7:=by kernel_rfl
theorem leatref11_merge.bits7:waitsOk leatref11_merge.T7.2 leatref11_merge.B7=true:=by kernel_rfl
set_option maxHeartbeats 8000000 in
set_option maxRecDepth 100000 in
theorem leatref11_merge.calls (k:Nat) (a0:Int) (P1_:Nat ->Prop) (u9000_:Value) (l1:List (S70)) (a2_0:Int) (a2_1:Int) (a2_2:Int) (a2_3:Int) (r:List (S70)) (w0 w:World) (hB:Below w0.heap.size w0 w) (ho1:Kd.R k70 70 w w0.heap.size P1_ u9000_ l1) (h:leatref11_merge.f k a0 l1 a2_0 a2_1 a2_2 a2_3=some r):
  Calls Try.prog 66 #[.int .i64 a0,u9000_,.agg #[.int .i64 a2_0,.int .i64 a2_1,.int .i64 a2_2,.int .i64 a2_3]] w fun e w'=> ∃v0_:Value,e= .returned (v0_)/\Kd.R k70 70 w' w0.heap.size (fun k_=>(P1_ k_∨w.heap.size<=k_)) v0_ r/\Below w0.heap.size w0 w'/\Kept w w' (fun k_=>P1_ k_):=by
 have hu70:=Try.underlying70;have hu68:=Try.underlying68;have HO1:=zd (show Kd.R k70 70 w w0.heap.size (fun k_=>(P1_ k_∨w.heap.size<=k_)) u9000_ l1 from zq ho1 (fun k_ hk=>(.inl hk)));have HK:=zd (Kept.refl w (fun k_=>P1_ k_));have HW0:=zd hB.size;have HB:=zd hB;clear hB;have H:(leatref11_merge.l0 k a0 l1 a2_0 a2_1 a2_2 a2_3)=some r:=h;clear h;have H' :=zd H;clear H;go_enter Try.func66,Try.ntmps66;go_wp2_with (first|((with_reducible refine gate_dst (N:=5) rfl ?_);refine box_event ?hg (N:=5) ?hd (cs:= #[.int .i64 a2_0,.int .i64 a2_1,.int .i64 a2_2,.int .i64 a2_3]) (t:=70) ?hr ?_;(case hd=>rfl);(case hg=>rfl);(case hr=>first|(go_simp;done)|(go_simp;rfl));intro gb177 hg w4 hbox hb;have n0_:=zd (zr (Kd.R_elderB (by(with_reducible repeat (first|apply ze|apply zf|apply zg));exact HO1.out) gb177 (Nat.le_of_eq hg.symm)) hb);have n1_:=zd (Kept.below (S:=(fun k_=>P1_ k_)) (by repeat (first|(with_reducible first|exact HK.out|apply Kept.alloc|apply Kept.drewN|apply Kept.drew)|exact HK.out)) hb);have n2_:=zd (zs (by repeat (first|(with_reducible first|exact HB.out|apply zh|apply zi|apply zj)|exact HB.out)) hb);have n3_:=zd (hbox);have n4_:=zd ((by rw[hg];exact(by first|exact HK.out.1|exact(show Kept w _ (fun k_=>P1_ k_) from by repeat (first|(with_reducible first|exact HK.out|apply Kept.alloc|apply Kept.drewN|apply Kept.drew)|exact HK.out)).1):w.heap.size<=gb177));have n5_:=zd ((by rw[hg];exact(below_size (by repeat (first|(with_reducible first|exact HB.out|apply zh|apply zi|apply zj)|exact HB.out))):w0.heap.size<=gb177));clear HO1;clear HK;clear HB;have HO1:=n0_;have HK:=n1_;have HB:=n2_;have BK177:=n3_;have GW177:=n4_;have GE177:=n5_;clear n0_ n1_ n2_ n3_ n4_ n5_;clear hb hbox hg));go_loopg [1] k (fun kq v1 w'=> ∃(x1_1:List (S70)) (x178000_1:Int) (x178001_1:Int) (x178002_1:Int) (x178003_1:Int),Aside0 (leatref11_merge.l0 kq a0 x1_1 x178000_1 x178001_1 x178002_1 x178003_1=some r)/\Aside0 (kq<=k)/\Aside0 (Kd.R k70 70 w' w0.heap.size (fun k_=>(P1_ k_∨w.heap.size<=k_)/\k_≠gb177) v1 x1_1)/\Aside0 (w'.heap[gb177]? =some (.cells #[.int .i64 x178000_1,.int .i64 x178001_1,.int .i64 x178002_1,.int .i64 x178003_1] 70 (0,0)))/\Aside0 (Kept w w' (fun k_=>P1_ k_))/\Aside0 (Below w0.heap.size w0 w'))
 case atStart=>exact⟨(l1),(a2_0),(a2_1),(a2_2),(a2_3),H',⟨Nat.le_refl _⟩,⟨by(with_reducible repeat (first|apply ze|apply zf|apply zg));exact HO1.out⟩,⟨by(with_reducible repeat (first|refine zk ?_ _|refine zl ?_|refine zm ?_ _));exact BK177.out⟩,⟨by repeat (first|(with_reducible first|exact HK.out|apply Kept.alloc|apply Kept.drewN|apply Kept.drew|refine Kept.setCell ?_ (.inr GW177.out) _)|exact HK.out)⟩,⟨by repeat (first|(with_reducible first|exact HB.out|apply zh|apply zi|apply zj|refine zn ?_ GE177.out)|exact HB.out)⟩⟩
 case round=>
  clear H'
  try clear p2
  obtain⟨x1_1,x178000_1,x178001_1,x178002_1,x178003_1,HA,HK1,HO_1,BK177,HK,HB⟩:=hrel;cases gk with
  |zero=>exact absurd HA.out (by simp[leatref11_merge.l0])
  | succ k1=>
   have H:=HA.out;clear HA;simp only[leatref11_merge.l0] at H;have H' :=zd H;clear H;go_wp2;go_loopg [7,8,9] k1 (fun kq v7 v8 v9 w'=> ∃(x7_2:List (S70)) (x8_2:Bool) (x9_2:Int) (x178000_2:Int) (x178001_2:Int) (x178002_2:Int) (x178003_2:Int),v8= .bool x8_2/\v9= .int .i64 x9_2/\Aside0 (leatref11_merge.l1 kq a0 x1_1 x7_2 x8_2 x9_2 x178000_2 x178001_2 x178002_2 x178003_2=some r)/\Aside0 (kq<=k1)/\Aside0 (Kd.R k70 70 w' w0.heap.size (fun k_=>(P1_ k_∨w.heap.size<=k_)/\some k_≠(v7:Value).ownBlock/\k_≠gb177) u1 x1_1)/\Aside0 (Kd.R k70 70 w' w0.heap.size (fun k_=>(P1_ k_∨w.heap.size<=k_)/\some k_≠(u1:Value).ownBlock/\k_≠gb177) v7 x7_2)/\Aside0 (w'.heap[gb177]? =some (.cells #[.int .i64 x178000_2,.int .i64 x178001_2,.int .i64 x178002_2,.int .i64 x178003_2] 70 (0,0)))/\Aside0 (Kept w w' (fun k_=>P1_ k_))/\Aside0 (Below w0.heap.size w0 w'))
   case atStart=>exact⟨(([]:List (S70))),(false),(0),(x178000_1),(x178001_1),(x178002_1),(x178003_1),(by first|rfl|(simp;done)|(simp[*];done)),(by first|rfl|(simp;done)|(simp[*];done)),H',⟨Nat.le_refl _⟩,⟨by(with_reducible repeat (first|apply ze|apply zf|apply zg));exact zq HO_1.out (fun _ hk=>⟨hk.1,⟨(by simp[Value.ownBlock]),hk.2⟩⟩)⟩,⟨by first|exact Kd.R_nil _ _ _ _ _|exact Kd.N_nil _ _ _ _ _|exact Kd.V_nil _ _ _ _ _|exact Kd.Q_nil _ _ _ _ _|exact Kd.S_nil _ _ _ _ _⟩,⟨by(with_reducible repeat (first|refine zk ?_ _|refine zl ?_|refine zm ?_ _));exact BK177.out⟩,⟨by repeat (first|(with_reducible first|exact HK.out|apply Kept.alloc|apply Kept.drewN|apply Kept.drew|refine Kept.setCell ?_ (.inr GW177.out) _)|exact HK.out)⟩,⟨by repeat (first|(with_reducible first|exact HB.out|apply zh|apply zi|apply zj|refine zn ?_ GE177.out)|exact HB.out)⟩⟩
   case round=>
    clear H'
    try clear p2;try clear p2
    obtain⟨x7_2,x8_2,x9_2,x178000_2,x178001_2,x178002_2,x178003_2,rfl,rfl,HA,HK2,HO_1,HO_7,BK177,HK,HB⟩:=hrel;cases gk with
    |zero=>exact absurd HA.out (by simp[leatref11_merge.l1])
    | succ k2=>
     have H:=HA.out;clear HA;simp only[leatref11_merge.l1] at H;by_cases c5:x9_2<(x1_1.length:Int)
     ·rw [if_pos c5] at H;have c5b0:decide (x9_2<(x1_1.length:Int))=true:=decide_eq_true c5;clear c5;by_cases c6:0<=x9_2
      ·rw [if_pos c6] at H;have c6b0:decide (0<=x9_2)=true:=decide_eq_true c6;clear c6;by_cases c7:((rd_T70 x1_1 x9_2).f0)=x178000_2
       ·rw [if_pos c7] at H;have c7b0:(((rd_T70 x1_1 x9_2).f0)==x178000_2)=true:=beq_iff_eq.mpr c7;have c7b1:(((rd_T70 x1_1 x9_2).f0) !=x178000_2)=false:=bne_eq_false_iff_eq.mpr c7;clear c7;replace H:=Option.bind_eq_some_iff.mp H;obtain⟨t186,A80,H⟩:=H;replace H:(if t186=true then((leatref10_Merge.f k2 a0 x178003_2 ((rd_T70 x1_1 x9_2).f2)).bind fun t190=>(leatref11_merge.l1 k2 a0 x1_1 x7_2 true (wrap64 (x9_2+1)) x178000_2 (mn x178001_2 ((rd_T70 x1_1 x9_2).f1.f0)) (mx x178002_2 ((rd_T70 x1_1 x9_2).f1.f1)) t190)) else(if x7_2.length<4398046511104 then(leatref11_merge.l1 k2 a0 x1_1 (x7_2++[(⟨(rd_T70 x1_1 x9_2).f0,(⟨(rd_T70 x1_1 x9_2).f1.f0,(rd_T70 x1_1 x9_2).f1.f1⟩:S68),(rd_T70 x1_1 x9_2).f2⟩:S70)]) x8_2 (wrap64 (x9_2+1)) x178000_2 x178001_2 x178002_2 x178003_2) else(none)))=some r:=H;have A8:=zd A80;clear A80;by_cases c9:t186=true
        ·subst c9;have H1:((leatref10_Merge.f k2 a0 x178003_2 ((rd_T70 x1_1 x9_2).f2)).bind fun t190=>(leatref11_merge.l1 k2 a0 x1_1 x7_2 true (wrap64 (x9_2+1)) x178000_2 (mn x178001_2 ((rd_T70 x1_1 x9_2).f1.f0)) (mx x178002_2 ((rd_T70 x1_1 x9_2).f1.f1)) t190))=some r:=by rw[if_pos rfl] at H;exact H
         clear H;have H:=H1;clear H1;obtain⟨ji10,hji10⟩: ∃j_:Int,(mn x178001_2 ((rd_T70 x1_1 x9_2).f1.f0))=j_:=⟨_,rfl⟩
         replace H:((leatref10_Merge.f k2 a0 x178003_2 ((rd_T70 x1_1 x9_2).f2)).bind fun t190=>(leatref11_merge.l1 k2 a0 x1_1 x7_2 true (wrap64 (x9_2+1)) x178000_2 ji10 (mx x178002_2 ((rd_T70 x1_1 x9_2).f1.f1)) t190))=some r:=by first|(rw[hji10] at H;exact H)|(simp only[hji10] at H ⊢;exact H)
         (try rw[hji10] at A8)
         have hji10_:(if ((rd_T70 x1_1 x9_2).f1.f0)<x178001_2 then((rd_T70 x1_1 x9_2).f1.f0) else x178001_2)=ji10:=hji10;obtain⟨ji11,hji11⟩: ∃j_:Int,(mx x178002_2 ((rd_T70 x1_1 x9_2).f1.f1))=j_:=⟨_,rfl⟩
         replace H:((leatref10_Merge.f k2 a0 x178003_2 ((rd_T70 x1_1 x9_2).f2)).bind fun t190=>(leatref11_merge.l1 k2 a0 x1_1 x7_2 true (wrap64 (x9_2+1)) x178000_2 ji10 ji11 t190))=some r:=by first|(rw[hji11] at H;exact H)|(simp only[hji11] at H ⊢;exact H)
         (try rw[hji11] at A8)
         have hji11_:(if x178002_2<((rd_T70 x1_1 x9_2).f1.f1) then((rd_T70 x1_1 x9_2).f1.f1) else x178002_2)=ji11:=hji11;replace H:=Option.bind_eq_some_iff.mp H;obtain⟨t190,A120,H⟩:=H;replace H:(leatref11_merge.l1 k2 a0 x1_1 x7_2 true (wrap64 (x9_2+1)) x178000_2 ji10 ji11 t190)=some r:=H;have A12:=zd A120;clear A120;have H' :=zd H;clear H;obtain⟨Ao13,co13,eo13⟩:=Kd.R_slice HO_1.out;subst eo13
         try go_wp2
         have n0_:=zd (zg HO_1.out);have n1_:=zd (zg HO_7.out);have n2_:=zd (zl BK177.out);have n3_:=zd (Kept.drew HK.out);have n4_:=zd (zj HB.out);clear HO_1;clear HO_7;clear BK177;clear HK;clear HB;have HO_1:=n0_;have HO_7:=n1_;have BK177:=n2_;have HK:=n3_;have HB:=n4_;clear n0_ n1_ n2_ n3_ n4_;have p184:0<=(x9_2:Int):=of_decide_eq_true (by first|(with_reducible assumption)|assumption);have q184:x9_2<(x1_1.length:Int):=of_decide_eq_true (by first|(with_reducible assumption)|assumption);obtain⟨ad184,e184,hx184_0,hx184_1,hx184_2,hx184_3⟩:=at_T70 (Kd.R_reads' HO_1.out).2.2 x9_2 p184 q184;cases e184;replace p184:=eq_true p184;replace q184:=eq_true q184;have p185:0<=(x9_2:Int):=of_decide_eq_true (by first|(with_reducible assumption)|assumption);have q185:x9_2<(x1_1.length:Int):=of_decide_eq_true (by first|(with_reducible assumption)|assumption);obtain⟨ad185,e185,hx185_0,hx185_1,hx185_2,hx185_3⟩:=at_T70 (Kd.R_reads' HO_1.out).2.2 x9_2 p185 q185;obtain rfl:ad184=ad185:=(by injection e185)
         replace p185:=eq_true p185;replace q185:=eq_true q185;refine start_ (n:=18) (S:=fun w'=>w'.cell? ⟨gb177,0,none⟩=some (.int .i64 x178000_2)/\w'.cell? ⟨gb177,1,none⟩=some (.int .i64 x178001_2)/\w'.cell? ⟨gb177,2,none⟩=some (.int .i64 x178002_2)/\w'.cell? ⟨gb177,3,none⟩=some (.int .i64 x178003_2)/\w'.cell? (ad184.add ((x9_2).toNat*4))=some (.int .i64 ((rd_T70 x1_1 x9_2).f0))/\w'.cell? ⟨(ad184.add ((x9_2).toNat*4)).block,(ad184.add ((x9_2).toNat*4)).off+1,none⟩=some (.int .i64 ((rd_T70 x1_1 x9_2).f1.f0))/\w'.cell? ⟨(ad184.add ((x9_2).toNat*4)).block,(ad184.add ((x9_2).toNat*4)).off+2,none⟩=some (.int .i64 ((rd_T70 x1_1 x9_2).f1.f1))/\w'.cell? ⟨(ad184.add ((x9_2).toNat*4)).block,(ad184.add ((x9_2).toNat*4)).off+3,none⟩=some (.int .i64 ((rd_T70 x1_1 x9_2).f2))/\w'.cell? (ad184.add ((x9_2).toNat*4))=some (.int .i64 ((rd_T70 x1_1 x9_2).f0))/\w'.cell? ⟨(ad184.add ((x9_2).toNat*4)).block,(ad184.add ((x9_2).toNat*4)).off+1,none⟩=some (.int .i64 ((rd_T70 x1_1 x9_2).f1.f0))/\w'.cell? ⟨(ad184.add ((x9_2).toNat*4)).block,(ad184.add ((x9_2).toNat*4)).off+2,none⟩=some (.int .i64 ((rd_T70 x1_1 x9_2).f1.f1))/\w'.cell? ⟨(ad184.add ((x9_2).toNat*4)).block,(ad184.add ((x9_2).toNat*4)).off+3,none⟩=some (.int .i64 ((rd_T70 x1_1 x9_2).f2))) (ds:=[]) #[f_,f_,f_,f_,f_,f_,f_,f_,f_,f_,f_,f_,f_,f_,f_,f_,f_,f_] (by kernel_rfl) rfl rfl ⟨(zo BK177.out 0).trans rfl,(zo BK177.out 1).trans rfl,(zo BK177.out 2).trans rfl,(zo BK177.out 3).trans rfl,hx184_0,hx184_1,hx184_2,hx184_3,hx185_0,hx185_1,hx185_2,hx185_3⟩ (fun hHeld=> ?_);refine with_tabW leatref11_merge.tab6 leatref11_merge.bits6 (fun HT_ HW_=> ?_);generalize wr.drew=w14 at HO_1 HO_7 BK177 HK HB hx184_0 hx184_1 hx184_2 hx184_3 hx185_0 hx185_1 hx185_2 hx185_3 hHeld ⊢;refine pure_ (i:=0) (N:=some 16) (v:= ?_) (a' := ?_) #[t_,f_,f_,f_,f_,f_,f_,f_,f_,f_,f_,f_,f_,f_,f_,f_,f_,f_] rfl rfl (any_of HT_.out (by kernel_rfl)) (fun _ _ _ h=>h) (Or.inl ⟨by rfl,?_⟩) ?_ ?_;rotate_left
         ·intro w';go_simp
          with_reducible rfl
         rotate_left
         ·simp only[Act.put,za,zb,zc,i64_w,i32_w];rfl
         refine pure_ (i:=1) (N:=some 17) (v:= ?_) (a' := ?_) #[t_,t_,f_,f_,f_,f_,f_,f_,f_,f_,f_,f_,f_,f_,f_,f_,f_,f_] rfl rfl (any_of HT_.out (by kernel_rfl)) (fun _ _ _ h=>h) (Or.inl ⟨by rfl,?_⟩) ?_ ?_;rotate_left
         ·intro w';go_simp
          with_reducible rfl
         rotate_left
         ·simp only[Act.put,za,zb,zc,i64_w,i32_w];rfl
         refine pure_ (i:=2) (N:=some 18) (v:= ?_) (a' := ?_) #[t_,t_,t_,f_,f_,f_,f_,f_,f_,f_,f_,f_,f_,f_,f_,f_,f_,f_] rfl rfl (any_of HT_.out (by kernel_rfl)) (fun _ _ _ h=>h) (Or.inl ⟨by rfl,?_⟩) ?_ ?_;rotate_left
         ·intro w';go_simp
          with_reducible rfl
         rotate_left
         ·simp only[Act.put,za,zb,zc,i64_w,i32_w];rfl
         refine pure_ (i:=3) (N:=some 19) (v:= ?_) (a' := ?_) #[t_,t_,t_,t_,f_,f_,f_,f_,f_,f_,f_,f_,f_,f_,f_,f_,f_,f_] rfl rfl (any_of HT_.out (by kernel_rfl)) (fun _ _ _ h=>h) (Or.inl ⟨by rfl,?_⟩) ?_ ?_;rotate_left
         ·intro w';go_simp
          with_reducible rfl
         rotate_left
         ·simp only[Act.put,za,zb,zc,i64_w,i32_w];rfl
         refine pure_ (i:=5) (N:=some 21) (v:= ?_) (a' := ?_) #[t_,t_,t_,t_,f_,t_,f_,f_,f_,f_,f_,f_,f_,f_,f_,f_,f_,f_] rfl rfl (any_of HT_.out (by kernel_rfl)) (fun _ _ _ h=>h) (Or.inl ⟨by rfl,?_⟩) ?_ ?_;rotate_left
         ·intro w';go_simp
          with_reducible rfl
         rotate_left
         ·simp only[Act.put,za,zb,zc,i64_w,i32_w];rfl
         refine take_ (i:=4) (N:=some 20) (v:= ?_) (a' := ?_) #[t_,t_,t_,t_,t_,t_,f_,f_,f_,f_,f_,f_,f_,f_,f_,f_,f_,f_] rfl rfl (take_ofW HT_.out HW_.out (by kernel_rfl)) (fun _ _ _ h=>h) (Or.inl ⟨by rfl,?_⟩) hHeld ?_ ?_;rotate_left
         ·rintro w' ⟨s0,s1,s2,s3,s4,s5,s6,s7,s8,s9,s10,s11⟩;go_simp
          with_reducible rfl
         rotate_left
         ·simp only[Act.put,za,zb,zc,i64_w,i32_w];rfl
         refine take_ (i:=6) (N:=some 22) (v:= ?_) (a' := ?_) #[t_,t_,t_,t_,t_,t_,t_,f_,f_,f_,f_,f_,f_,f_,f_,f_,f_,f_] rfl rfl (take_ofW HT_.out HW_.out (by kernel_rfl)) (fun _ _ _ h=>h) (Or.inl ⟨by rfl,?_⟩) hHeld ?_ ?_;rotate_left
         ·rintro w' ⟨s0,s1,s2,s3,s4,s5,s6,s7,s8,s9,s10,s11⟩;go_simp
          with_reducible rfl
         rotate_left
         ·simp only[Act.put,za,zb,zc,i64_w,i32_w];rfl
         refine pure_ (i:=7) (N:=some 23) (v:= ?_) (a' := ?_) #[t_,t_,t_,t_,t_,t_,t_,t_,f_,f_,f_,f_,f_,f_,f_,f_,f_,f_] rfl rfl (any_of HT_.out (by kernel_rfl)) (fun _ _ _ h=>h) (Or.inl ⟨by rfl,?_⟩) ?_ ?_;rotate_left
         ·intro w';go_simp
          with_reducible rfl
         rotate_left
         ·simp only[Act.put,za,zb,zc,i64_w,i32_w];rfl
         refine pure_ (i:=8) (N:=some 24) (v:= ?_) (a' := ?_) #[t_,t_,t_,t_,t_,t_,t_,t_,t_,f_,f_,f_,f_,f_,f_,f_,f_,f_] rfl rfl (any_of HT_.out (by kernel_rfl)) (fun _ _ _ h=>h) (Or.inl ⟨by rfl,?_⟩) ?_ ?_;rotate_left
         ·intro w';go_simp
          with_reducible rfl
         rotate_left
         ·simp only[Act.put,za,zb,zc,i64_w,i32_w];rfl
         refine pure_ (i:=9) (N:=some 25) (v:= ?_) (a' := ?_) #[t_,t_,t_,t_,t_,t_,t_,t_,t_,t_,f_,f_,f_,f_,f_,f_,f_,f_] rfl rfl (any_of HT_.out (by kernel_rfl)) (fun _ _ _ h=>h) (Or.inl ⟨by rfl,?_⟩) ?_ ?_;rotate_left
         ·intro w';go_simp
          with_reducible rfl
         rotate_left
         ·simp only[Act.put,za,zb,zc,i64_w,i32_w];rfl
         refine pure_ (i:=10) (N:=some 26) (v:= ?_) (a' := ?_) #[t_,t_,t_,t_,t_,t_,t_,t_,t_,t_,t_,f_,f_,f_,f_,f_,f_,f_] rfl rfl (any_of HT_.out (by kernel_rfl)) (fun _ _ _ h=>h) (Or.inl ⟨by rfl,?_⟩) ?_ ?_;rotate_left
         ·intro w';go_simp
          with_reducible rfl
         rotate_left
         ·simp only[Act.put,za,zb,zc,i64_w,i32_w];rfl
         refine pure_ (i:=11) (N:=some 27) (v:= ?_) (a' := ?_) #[t_,t_,t_,t_,t_,t_,t_,t_,t_,t_,t_,t_,f_,f_,f_,f_,f_,f_] rfl rfl (any_of HT_.out (by kernel_rfl)) (fun _ _ _ h=>h) (Or.inl ⟨by rfl,?_⟩) ?_ ?_;rotate_left
         ·intro w';go_simp
          with_reducible rfl
         rotate_left
         ·simp only[Act.put,za,zb,zc,i64_w,i32_w];rfl
         refine pure_ (i:=12) (N:=some 28) (v:= ?_) (a' := ?_) #[t_,t_,t_,t_,t_,t_,t_,t_,t_,t_,t_,t_,t_,f_,f_,f_,f_,f_] rfl rfl (any_of HT_.out (by kernel_rfl)) (fun _ _ _ h=>h) (Or.inl ⟨by rfl,?_⟩) ?_ ?_;rotate_left
         ·intro w';go_simp
          with_reducible rfl
         rotate_left
         ·simp only[Act.put,za,zb,zc,i64_w,i32_w];rfl
         refine pure_ (i:=14) (N:=some 30) (v:= ?_) (a' := ?_) #[t_,t_,t_,t_,t_,t_,t_,t_,t_,t_,t_,t_,t_,f_,t_,f_,f_,f_] rfl rfl (any_of HT_.out (by kernel_rfl)) (fun _ _ _ h=>h) (Or.inl ⟨by rfl,?_⟩) ?_ ?_;rotate_left
         ·intro w';go_simp
          with_reducible rfl
         rotate_left
         ·simp only[Act.put,za,zb,zc,i64_w,i32_w];rfl
         refine take_ (i:=13) (N:=some 29) (v:= ?_) (a' := ?_) #[t_,t_,t_,t_,t_,t_,t_,t_,t_,t_,t_,t_,t_,t_,t_,f_,f_,f_] rfl rfl (take_ofW HT_.out HW_.out (by kernel_rfl)) (fun _ _ _ h=>h) (Or.inl ⟨by rfl,?_⟩) hHeld ?_ ?_;rotate_left
         ·rintro w' ⟨s0,s1,s2,s3,s4,s5,s6,s7,s8,s9,s10,s11⟩;go_simp
          with_reducible rfl
         rotate_left
         ·simp only[Act.put,za,zb,zc,i64_w,i32_w];rfl
         refine take_ (i:=15) (N:=some 31) (v:= ?_) (a' := ?_) #[t_,t_,t_,t_,t_,t_,t_,t_,t_,t_,t_,t_,t_,t_,t_,t_,f_,f_] rfl rfl (take_ofW HT_.out HW_.out (by kernel_rfl)) (fun _ _ _ h=>h) (Or.inl ⟨by rfl,?_⟩) hHeld ?_ ?_;rotate_left
         ·rintro w' ⟨s0,s1,s2,s3,s4,s5,s6,s7,s8,s9,s10,s11⟩;go_simp
          with_reducible rfl
         rotate_left
         ·simp only[Act.put,za,zb,zc,i64_w,i32_w];rfl
         refine one_ (i:=16) (N:=some 32) #[t_,t_,t_,t_,t_,t_,t_,t_,t_,t_,t_,t_,t_,t_,t_,t_,t_,f_] rfl rfl (one_of HT_.out (by kernel_rfl)) (by decide) (fun K hK=> ?_);refine goes_ Try.func80 (by kernel_rfl) rfl #[.agg #[.int .i64 ((rd_T70 x1_1 x9_2).f1.f0),.int .i64 ((rd_T70 x1_1 x9_2).f1.f1)],.agg #[.int .i64 x178001_2,.int .i64 x178002_2]] (by rfl) rfl rfl (by(try simp only[List.map_toArray,List.map_cons,List.map_nil]);first|done|rfl|(simp only[List.length_drop,List.length_take];rfl)) ?_
         with_reducible refine(leatref11_overlap.calls ((rd_T70 x1_1 x9_2).f1.f0) ((rd_T70 x1_1 x9_2).f1.f1) x178001_2 x178002_2 true _ A8.out).mono ?_
         rintro e w15 ⟨rfl,hb⟩;have HS4_:=(hb.cell (World.block_lt_of_cell? _ _ (hHeld.2.2.2.2.1))).trans (hHeld.2.2.2.2.1);have HS5_:=(hb.cell (World.block_lt_of_cell? _ _ (hHeld.2.2.2.2.2.1))).trans (hHeld.2.2.2.2.2.1);have HS6_:=(hb.cell (World.block_lt_of_cell? _ _ (hHeld.2.2.2.2.2.2.1))).trans (hHeld.2.2.2.2.2.2.1);have HS7_:=(hb.cell (World.block_lt_of_cell? _ _ (hHeld.2.2.2.2.2.2.2.1))).trans (hHeld.2.2.2.2.2.2.2.1);have HS8_:=(hb.cell (World.block_lt_of_cell? _ _ (hHeld.2.2.2.2.2.2.2.2.1))).trans (hHeld.2.2.2.2.2.2.2.2.1);have HS9_:=(hb.cell (World.block_lt_of_cell? _ _ (hHeld.2.2.2.2.2.2.2.2.2.1))).trans (hHeld.2.2.2.2.2.2.2.2.2.1);have HS10_:=(hb.cell (World.block_lt_of_cell? _ _ (hHeld.2.2.2.2.2.2.2.2.2.2.1))).trans (hHeld.2.2.2.2.2.2.2.2.2.2.1);have HS11_:=(hb.cell (World.block_lt_of_cell? _ _ (hHeld.2.2.2.2.2.2.2.2.2.2.2))).trans (hHeld.2.2.2.2.2.2.2.2.2.2.2);refine⟨_,rfl,?_⟩;have n0_:=zd (zr (by(with_reducible repeat (first|apply ze|apply zf|apply zg));exact HO_1.out) hb);have n1_:=zd (zr (by(with_reducible repeat (first|apply ze|apply zf|apply zg));exact HO_7.out) hb);have n2_:=zd (zp (g:=gb177) (o:= .cells #[.int .i64 x178000_2,.int .i64 x178001_2,.int .i64 x178002_2,.int .i64 x178003_2] 70 (0,0)) (by(with_reducible repeat (first|refine zk ?_ _|refine zl ?_|refine zm ?_ _));exact BK177.out) hb);have n3_:=zd (Kept.below (S:=(fun k_=>P1_ k_)) (by repeat (first|(with_reducible first|exact HK.out|apply Kept.alloc|apply Kept.drewN|apply Kept.drew|refine Kept.setCell ?_ (.inr GW177.out) _)|exact HK.out)) hb);have n4_:=zd (zs (by repeat (first|(with_reducible first|exact HB.out|apply zh|apply zi|apply zj|refine zn ?_ GE177.out)|exact HB.out)) hb);clear HO_1;clear HO_7;clear BK177;clear HK;clear HB;have HO_1:=n0_;have HO_7:=n1_;have BK177:=n2_;have HK:=n3_;have HB:=n4_;clear n0_ n1_ n2_ n3_ n4_
         (try clear hb)
         (try clear hb2)
         (try clear hk)
         (try clear hi)
         refine hK.out _ _ ⟨(zo BK177.out 0).trans rfl,(zo BK177.out 1).trans rfl,(zo BK177.out 2).trans rfl,(zo BK177.out 3).trans rfl,HS4_,HS5_,HS6_,HS7_,HS8_,HS9_,HS10_,HS11_⟩ (fun hHeld=> ?_);clear hK K;refine norm_ (a' := ?_) ?_ ?_;rotate_left
         ·show Act.put _ (some 32) _=_;simp only[Act.put,za,zb,zc,i64_w,i32_w];rfl
         refine pure_ (i:=17) (N:=some 33) (v:= ?_) (a' := ?_) #[t_,t_,t_,t_,t_,t_,t_,t_,t_,t_,t_,t_,t_,t_,t_,t_,t_,t_] rfl rfl (any_of HT_.out (by kernel_rfl)) (fun _ _ _ h=>h) (Or.inl ⟨by rfl,?_⟩) ?_ ?_;rotate_left
         ·intro w';go_simp
          with_reducible rfl
         rotate_left
         ·simp only[Act.put,za,zb,zc,i64_w,i32_w];rfl
         refine done_ (done_of HT_.out (by kernel_rfl)) ?_
         try go_wp2
         have n0_:=zd (zg HO_1.out);have n1_:=zd (zg HO_7.out);have n2_:=zd (zl BK177.out);have n3_:=zd (Kept.drew HK.out);have n4_:=zd (zj HB.out);clear HO_1;clear HO_7;clear BK177;clear HK;clear HB;have HO_1:=n0_;have HO_7:=n1_;have BK177:=n2_;have HK:=n3_;have HB:=n4_;clear n0_ n1_ n2_ n3_ n4_;have p187:0<=(x9_2:Int):=of_decide_eq_true (by first|(with_reducible assumption)|assumption);have q187:x9_2<(x1_1.length:Int):=of_decide_eq_true (by first|(with_reducible assumption)|assumption);obtain⟨ad187,e187,hx187_0,hx187_1,hx187_2,hx187_3⟩:=at_T70 (Kd.R_reads' HO_1.out).2.2 x9_2 p187 q187;obtain rfl:ad184=ad187:=(by injection e187)
         replace p187:=eq_true p187;replace q187:=eq_true q187;have p188:0<=(x9_2:Int):=of_decide_eq_true (by first|(with_reducible assumption)|assumption);have q188:x9_2<(x1_1.length:Int):=of_decide_eq_true (by first|(with_reducible assumption)|assumption);obtain⟨ad188,e188,hx188_0,hx188_1,hx188_2,hx188_3⟩:=at_T70 (Kd.R_reads' HO_1.out).2.2 x9_2 p188 q188;obtain rfl:ad184=ad188:=(by injection e188)
         replace p188:=eq_true p188;replace q188:=eq_true q188;have p189:0<=(x9_2:Int):=of_decide_eq_true (by first|(with_reducible assumption)|assumption);have q189:x9_2<(x1_1.length:Int):=of_decide_eq_true (by first|(with_reducible assumption)|assumption);obtain⟨ad189,e189,hx189_0,hx189_1,hx189_2,hx189_3⟩:=at_T70 (Kd.R_reads' HO_1.out).2.2 x9_2 p189 q189;obtain rfl:ad184=ad189:=(by injection e189)
         replace p189:=eq_true p189;replace q189:=eq_true q189;refine start_ (n:=34) (S:=fun w'=>w'.cell? ⟨gb177,0,none⟩=some (.int .i64 x178000_2)/\w'.cell? ⟨gb177,1,none⟩=some (.int .i64 x178001_2)/\w'.cell? ⟨gb177,2,none⟩=some (.int .i64 x178002_2)/\w'.cell? ⟨gb177,3,none⟩=some (.int .i64 x178003_2)/\w'.cell? (ad184.add ((x9_2).toNat*4))=some (.int .i64 ((rd_T70 x1_1 x9_2).f0))/\w'.cell? ⟨(ad184.add ((x9_2).toNat*4)).block,(ad184.add ((x9_2).toNat*4)).off+1,none⟩=some (.int .i64 ((rd_T70 x1_1 x9_2).f1.f0))/\w'.cell? ⟨(ad184.add ((x9_2).toNat*4)).block,(ad184.add ((x9_2).toNat*4)).off+2,none⟩=some (.int .i64 ((rd_T70 x1_1 x9_2).f1.f1))/\w'.cell? ⟨(ad184.add ((x9_2).toNat*4)).block,(ad184.add ((x9_2).toNat*4)).off+3,none⟩=some (.int .i64 ((rd_T70 x1_1 x9_2).f2))/\w'.cell? (ad184.add ((x9_2).toNat*4))=some (.int .i64 ((rd_T70 x1_1 x9_2).f0))/\w'.cell? ⟨(ad184.add ((x9_2).toNat*4)).block,(ad184.add ((x9_2).toNat*4)).off+1,none⟩=some (.int .i64 ((rd_T70 x1_1 x9_2).f1.f0))/\w'.cell? ⟨(ad184.add ((x9_2).toNat*4)).block,(ad184.add ((x9_2).toNat*4)).off+2,none⟩=some (.int .i64 ((rd_T70 x1_1 x9_2).f1.f1))/\w'.cell? ⟨(ad184.add ((x9_2).toNat*4)).block,(ad184.add ((x9_2).toNat*4)).off+3,none⟩=some (.int .i64 ((rd_T70 x1_1 x9_2).f2))/\w'.cell? (ad184.add ((x9_2).toNat*4))=some (.int .i64 ((rd_T70 x1_1 x9_2).f0))/\w'.cell? ⟨(ad184.add ((x9_2).toNat*4)).block,(ad184.add ((x9_2).toNat*4)).off+1,none⟩=some (.int .i64 ((rd_T70 x1_1 x9_2).f1.f0))/\w'.cell? ⟨(ad184.add ((x9_2).toNat*4)).block,(ad184.add ((x9_2).toNat*4)).off+2,none⟩=some (.int .i64 ((rd_T70 x1_1 x9_2).f1.f1))/\w'.cell? ⟨(ad184.add ((x9_2).toNat*4)).block,(ad184.add ((x9_2).toNat*4)).off+3,none⟩=some (.int .i64 ((rd_T70 x1_1 x9_2).f2))) (ds:=[33]) #[f_,f_,f_,f_,f_,f_,f_,f_,f_,f_,f_,f_,f_,f_,f_,f_,f_,f_,f_,f_,f_,f_,f_,f_,f_,f_,f_,f_,f_,f_,f_,f_,f_,f_] (by kernel_rfl) rfl rfl ⟨(zo BK177.out 0).trans rfl,(zo BK177.out 1).trans rfl,(zo BK177.out 2).trans rfl,(zo BK177.out 3).trans rfl,hx187_0,hx187_1,hx187_2,hx187_3,hx188_0,hx188_1,hx188_2,hx188_3,hx189_0,hx189_1,hx189_2,hx189_3⟩ (fun hHeld=> ?_);refine with_tabW leatref11_merge.tab7 leatref11_merge.bits7 (fun HT_ HW_=> ?_);generalize w15.drew=w16 at HO_1 HO_7 BK177 HK HB hx187_0 hx187_1 hx187_2 hx187_3 hx188_0 hx188_1 hx188_2 hx188_3 hx189_0 hx189_1 hx189_2 hx189_3 hHeld ⊢;refine pure_ (i:=0) (N:=some 34) (v:= ?_) (a' := ?_) #[t_,f_,f_,f_,f_,f_,f_,f_,f_,f_,f_,f_,f_,f_,f_,f_,f_,f_,f_,f_,f_,f_,f_,f_,f_,f_,f_,f_,f_,f_,f_,f_,f_,f_] rfl rfl (any_of HT_.out (by kernel_rfl)) (fun _ _ _ h=>h) (Or.inl ⟨by rfl,?_⟩) ?_ ?_;rotate_left
         ·intro w';go_simp
          with_reducible rfl
         rotate_left
         ·simp only[Act.put,za,zb,zc,i64_w,i32_w];rfl
         refine pure_ (i:=2) (N:=some 36) (v:= ?_) (a' := ?_) #[t_,f_,t_,f_,f_,f_,f_,f_,f_,f_,f_,f_,f_,f_,f_,f_,f_,f_,f_,f_,f_,f_,f_,f_,f_,f_,f_,f_,f_,f_,f_,f_,f_,f_] rfl rfl (any_of HT_.out (by kernel_rfl)) (fun _ _ _ h=>h) (Or.inl ⟨by rfl,?_⟩) ?_ ?_;rotate_left
         ·intro w';go_simp
          with_reducible rfl
         rotate_left
         ·simp only[Act.put,za,zb,zc,i64_w,i32_w];rfl
         refine pure_ (i:=3) (N:=some 37) (v:= ?_) (a' := ?_) #[t_,f_,t_,t_,f_,f_,f_,f_,f_,f_,f_,f_,f_,f_,f_,f_,f_,f_,f_,f_,f_,f_,f_,f_,f_,f_,f_,f_,f_,f_,f_,f_,f_,f_] rfl rfl (any_of HT_.out (by kernel_rfl)) (fun _ _ _ h=>h) (Or.inl ⟨by rfl,?_⟩) ?_ ?_;rotate_left
         ·intro w';go_simp
          with_reducible rfl
         rotate_left
         ·simp only[Act.put,za,zb,zc,i64_w,i32_w];rfl
         refine pure_ (i:=5) (N:=some 39) (v:= ?_) (a' := ?_) #[t_,f_,t_,t_,f_,t_,f_,f_,f_,f_,f_,f_,f_,f_,f_,f_,f_,f_,f_,f_,f_,f_,f_,f_,f_,f_,f_,f_,f_,f_,f_,f_,f_,f_] rfl rfl (any_of HT_.out (by kernel_rfl)) (fun _ _ _ h=>h) (Or.inl ⟨by rfl,?_⟩) ?_ ?_;rotate_left
         ·intro w';go_simp
          with_reducible rfl
         rotate_left
         ·simp only[Act.put,za,zb,zc,i64_w,i32_w];rfl
         refine pure_ (i:=6) (N:=some 40) (v:= ?_) (a' := ?_) #[t_,f_,t_,t_,f_,t_,t_,f_,f_,f_,f_,f_,f_,f_,f_,f_,f_,f_,f_,f_,f_,f_,f_,f_,f_,f_,f_,f_,f_,f_,f_,f_,f_,f_] rfl rfl (any_of HT_.out (by kernel_rfl)) (fun _ _ _ h=>h) (Or.inl ⟨by rfl,?_⟩) ?_ ?_;rotate_left
         ·intro w';go_simp
          with_reducible rfl
         rotate_left
         ·simp only[Act.put,za,zb,zc,i64_w,i32_w];rfl
         refine pure_ (i:=7) (N:=some 41) (v:= ?_) (a' := ?_) #[t_,f_,t_,t_,f_,t_,t_,t_,f_,f_,f_,f_,f_,f_,f_,f_,f_,f_,f_,f_,f_,f_,f_,f_,f_,f_,f_,f_,f_,f_,f_,f_,f_,f_] rfl rfl (any_of HT_.out (by kernel_rfl)) (fun _ _ _ h=>h) (Or.inl ⟨by rfl,?_⟩) ?_ ?_;rotate_left
         ·intro w';go_simp
          with_reducible rfl
         rotate_left
         ·simp only[Act.put,za,zb,zc,i64_w,i32_w];rfl
         refine pure_ (i:=8) (N:=some 42) (v:= ?_) (a' := ?_) #[t_,f_,t_,t_,f_,t_,t_,t_,t_,f_,f_,f_,f_,f_,f_,f_,f_,f_,f_,f_,f_,f_,f_,f_,f_,f_,f_,f_,f_,f_,f_,f_,f_,f_] rfl rfl (any_of HT_.out (by kernel_rfl)) (fun _ _ _ h=>h) (Or.inl ⟨by rfl,?_⟩) ?_ ?_;rotate_left
         ·intro w';go_simp
          with_reducible rfl
         rotate_left
         ·simp only[Act.put,za,zb,zc,i64_w,i32_w];rfl
         refine pure_ (i:=9) (N:=some 43) (v:= ?_) (a' := ?_) #[t_,f_,t_,t_,f_,t_,t_,t_,t_,t_,f_,f_,f_,f_,f_,f_,f_,f_,f_,f_,f_,f_,f_,f_,f_,f_,f_,f_,f_,f_,f_,f_,f_,f_] rfl rfl (any_of HT_.out (by kernel_rfl)) (fun _ _ _ h=>h) (Or.inl ⟨by rfl,?_⟩) ?_ ?_;rotate_left
         ·intro w';go_simp
          with_reducible rfl
         rotate_left
         ·simp only[Act.put,za,zb,zc,i64_w,i32_w];rfl
         refine pure_ (i:=12) (N:=some 46) (v:= ?_) (a' := ?_) #[t_,f_,t_,t_,f_,t_,t_,t_,t_,t_,f_,f_,t_,f_,f_,f_,f_,f_,f_,f_,f_,f_,f_,f_,f_,f_,f_,f_,f_,f_,f_,f_,f_,f_] rfl rfl (any_of HT_.out (by kernel_rfl)) (fun _ _ _ h=>h) (Or.inl ⟨by rfl,?_⟩) ?_ ?_;rotate_left
         ·intro w';go_simp
          with_reducible rfl
         rotate_left
         ·simp only[Act.put,za,zb,zc,i64_w,i32_w];rfl
         refine pure_ (i:=13) (N:=some 47) (v:= ?_) (a' := ?_) #[t_,f_,t_,t_,f_,t_,t_,t_,t_,t_,f_,f_,t_,t_,f_,f_,f_,f_,f_,f_,f_,f_,f_,f_,f_,f_,f_,f_,f_,f_,f_,f_,f_,f_] rfl rfl (any_of HT_.out (by kernel_rfl)) (fun _ _ _ h=>h) (Or.inl ⟨by rfl,?_⟩) ?_ ?_;rotate_left
         ·intro w';go_simp
          with_reducible rfl
         rotate_left
         ·simp only[Act.put,za,zb,zc,i64_w,i32_w];rfl
         refine pure_ (i:=15) (N:=some 49) (v:= ?_) (a' := ?_) #[t_,f_,t_,t_,f_,t_,t_,t_,t_,t_,f_,f_,t_,t_,f_,t_,f_,f_,f_,f_,f_,f_,f_,f_,f_,f_,f_,f_,f_,f_,f_,f_,f_,f_] rfl rfl (any_of HT_.out (by kernel_rfl)) (fun _ _ _ h=>h) (Or.inl ⟨by rfl,?_⟩) ?_ ?_;rotate_left
         ·intro w';go_simp
          with_reducible rfl
         rotate_left
         ·simp only[Act.put,za,zb,zc,i64_w,i32_w];rfl
         refine pure_ (i:=16) (N:=some 50) (v:= ?_) (a' := ?_) #[t_,f_,t_,t_,f_,t_,t_,t_,t_,t_,f_,f_,t_,t_,f_,t_,t_,f_,f_,f_,f_,f_,f_,f_,f_,f_,f_,f_,f_,f_,f_,f_,f_,f_] rfl rfl (any_of HT_.out (by kernel_rfl)) (fun _ _ _ h=>h) (Or.inl ⟨by rfl,?_⟩) ?_ ?_;rotate_left
         ·intro w';go_simp
          with_reducible rfl
         rotate_left
         ·simp only[Act.put,za,zb,zc,i64_w,i32_w];rfl
         refine pure_ (i:=17) (N:=some 51) (v:= ?_) (a' := ?_) #[t_,f_,t_,t_,f_,t_,t_,t_,t_,t_,f_,f_,t_,t_,f_,t_,t_,t_,f_,f_,f_,f_,f_,f_,f_,f_,f_,f_,f_,f_,f_,f_,f_,f_] rfl rfl (any_of HT_.out (by kernel_rfl)) (fun _ _ _ h=>h) (Or.inl ⟨by rfl,?_⟩) ?_ ?_;rotate_left
         ·intro w';go_simp
          with_reducible rfl
         rotate_left
         ·simp only[Act.put,za,zb,zc,i64_w,i32_w];rfl
         refine pure_ (i:=18) (N:=some 52) (v:= ?_) (a' := ?_) #[t_,f_,t_,t_,f_,t_,t_,t_,t_,t_,f_,f_,t_,t_,f_,t_,t_,t_,t_,f_,f_,f_,f_,f_,f_,f_,f_,f_,f_,f_,f_,f_,f_,f_] rfl rfl (any_of HT_.out (by kernel_rfl)) (fun _ _ _ h=>h) (Or.inl ⟨by rfl,?_⟩) ?_ ?_;rotate_left
         ·intro w';go_simp
          with_reducible rfl
         rotate_left
         ·simp only[Act.put,za,zb,zc,i64_w,i32_w];rfl
         refine pure_ (i:=19) (N:=some 53) (v:= ?_) (a' := ?_) #[t_,f_,t_,t_,f_,t_,t_,t_,t_,t_,f_,f_,t_,t_,f_,t_,t_,t_,t_,t_,f_,f_,f_,f_,f_,f_,f_,f_,f_,f_,f_,f_,f_,f_] rfl rfl (any_of HT_.out (by kernel_rfl)) (fun _ _ _ h=>h) (Or.inl ⟨by rfl,?_⟩) ?_ ?_;rotate_left
         ·intro w';go_simp
          with_reducible rfl
         rotate_left
         ·simp only[Act.put,za,zb,zc,i64_w,i32_w];rfl
         refine pure_ (i:=23) (N:=some 57) (v:= ?_) (a' := ?_) #[t_,f_,t_,t_,f_,t_,t_,t_,t_,t_,f_,f_,t_,t_,f_,t_,t_,t_,t_,t_,f_,f_,f_,t_,f_,f_,f_,f_,f_,f_,f_,f_,f_,f_] rfl rfl (any_of HT_.out (by kernel_rfl)) (fun _ _ _ h=>h) (Or.inl ⟨by rfl,?_⟩) ?_ ?_;rotate_left
         ·intro w';go_simp
          with_reducible rfl
         rotate_left
         ·simp only[Act.put,za,zb,zc,i64_w,i32_w];rfl
         refine pure_ (i:=24) (N:=some 58) (v:= ?_) (a' := ?_) #[t_,f_,t_,t_,f_,t_,t_,t_,t_,t_,f_,f_,t_,t_,f_,t_,t_,t_,t_,t_,f_,f_,f_,t_,t_,f_,f_,f_,f_,f_,f_,f_,f_,f_] rfl rfl (any_of HT_.out (by kernel_rfl)) (fun _ _ _ h=>h) (Or.inl ⟨by rfl,?_⟩) ?_ ?_;rotate_left
         ·intro w';go_simp
          with_reducible rfl
         rotate_left
         ·simp only[Act.put,za,zb,zc,i64_w,i32_w];rfl
         refine pure_ (i:=26) (N:=some 60) (v:= ?_) (a' := ?_) #[t_,f_,t_,t_,f_,t_,t_,t_,t_,t_,f_,f_,t_,t_,f_,t_,t_,t_,t_,t_,f_,f_,f_,t_,t_,f_,t_,f_,f_,f_,f_,f_,f_,f_] rfl rfl (any_of HT_.out (by kernel_rfl)) (fun _ _ _ h=>h) (Or.inl ⟨by rfl,?_⟩) ?_ ?_;rotate_left
         ·intro w';go_simp
          with_reducible rfl
         rotate_left
         ·simp only[Act.put,za,zb,zc,i64_w,i32_w];rfl
         refine pure_ (i:=27) (N:=some 61) (v:= ?_) (a' := ?_) #[t_,f_,t_,t_,f_,t_,t_,t_,t_,t_,f_,f_,t_,t_,f_,t_,t_,t_,t_,t_,f_,f_,f_,t_,t_,f_,t_,t_,f_,f_,f_,f_,f_,f_] rfl rfl (any_of HT_.out (by kernel_rfl)) (fun _ _ _ h=>h) (Or.inl ⟨by rfl,?_⟩) ?_ ?_;rotate_left
         ·intro w';go_simp
          with_reducible rfl
         rotate_left
         ·simp only[Act.put,za,zb,zc,i64_w,i32_w];rfl
         refine pure_ (i:=28) (N:=some 62) (v:= ?_) (a' := ?_) #[t_,f_,t_,t_,f_,t_,t_,t_,t_,t_,f_,f_,t_,t_,f_,t_,t_,t_,t_,t_,f_,f_,f_,t_,t_,f_,t_,t_,t_,f_,f_,f_,f_,f_] rfl rfl (any_of HT_.out (by kernel_rfl)) (fun _ _ _ h=>h) (Or.inl ⟨by rfl,?_⟩) ?_ ?_;rotate_left
         ·intro w';go_simp
          with_reducible rfl
         rotate_left
         ·simp only[Act.put,za,zb,zc,i64_w,i32_w];rfl
         refine pure_ (i:=29) (N:=some 63) (v:= ?_) (a' := ?_) #[t_,f_,t_,t_,f_,t_,t_,t_,t_,t_,f_,f_,t_,t_,f_,t_,t_,t_,t_,t_,f_,f_,f_,t_,t_,f_,t_,t_,t_,t_,f_,f_,f_,f_] rfl rfl (any_of HT_.out (by kernel_rfl)) (fun _ _ _ h=>h) (Or.inl ⟨by rfl,?_⟩) ?_ ?_;rotate_left
         ·intro w';go_simp
          with_reducible rfl
         rotate_left
         ·simp only[Act.put,za,zb,zc,i64_w,i32_w];rfl
         refine take_ (i:=1) (N:=some 35) (v:= ?_) (a' := ?_) #[t_,t_,t_,t_,f_,t_,t_,t_,t_,t_,f_,f_,t_,t_,f_,t_,t_,t_,t_,t_,f_,f_,f_,t_,t_,f_,t_,t_,t_,t_,f_,f_,f_,f_] rfl rfl (take_ofW HT_.out HW_.out (by kernel_rfl)) (fun _ _ _ h=>h) (Or.inl ⟨by rfl,?_⟩) hHeld ?_ ?_;rotate_left
         ·rintro w' ⟨s0,s1,s2,s3,s4,s5,s6,s7,s8,s9,s10,s11,s12,s13,s14,s15⟩;go_simp
          with_reducible rfl
         rotate_left
         ·simp only[Act.put,za,zb,zc,i64_w,i32_w];rfl
         refine take_ (i:=4) (N:=some 38) (v:= ?_) (a' := ?_) #[t_,t_,t_,t_,t_,t_,t_,t_,t_,t_,f_,f_,t_,t_,f_,t_,t_,t_,t_,t_,f_,f_,f_,t_,t_,f_,t_,t_,t_,t_,f_,f_,f_,f_] rfl rfl (take_ofW HT_.out HW_.out (by kernel_rfl)) (fun _ _ _ h=>h) (Or.inl ⟨by rfl,?_⟩) hHeld ?_ ?_;rotate_left
         ·rintro w' ⟨s0,s1,s2,s3,s4,s5,s6,s7,s8,s9,s10,s11,s12,s13,s14,s15⟩;go_simp
          with_reducible rfl
         rotate_left
         ·simp only[Act.put,za,zb,zc,i64_w,i32_w];rfl
         refine take_ (i:=10) (N:=some 44) (v:= ?_) (a' := ?_) #[t_,t_,t_,t_,t_,t_,t_,t_,t_,t_,t_,f_,t_,t_,f_,t_,t_,t_,t_,t_,f_,f_,f_,t_,t_,f_,t_,t_,t_,t_,f_,f_,f_,f_] rfl rfl (take_ofW HT_.out HW_.out (by kernel_rfl)) (fun _ _ _ h=>h) (Or.inl ⟨by rfl,?_⟩) hHeld ?_ ?_;rotate_left
         ·rintro w' ⟨s0,s1,s2,s3,s4,s5,s6,s7,s8,s9,s10,s11,s12,s13,s14,s15⟩;go_simp
          with_reducible rfl
         rotate_left
         ·simp only[Act.put,za,zb,zc,i64_w,i32_w];rfl
         refine pure_ (i:=11) (N:=some 45) (v:= ?_) (a' := ?_) #[t_,t_,t_,t_,t_,t_,t_,t_,t_,t_,t_,t_,t_,t_,f_,t_,t_,t_,t_,t_,f_,f_,f_,t_,t_,f_,t_,t_,t_,t_,f_,f_,f_,f_] rfl rfl (any_of HT_.out (by kernel_rfl)) (fun _ _ _ h=>h) (Or.inl ⟨by rfl,?_⟩) ?_ ?_;rotate_left
         ·intro w';go_simp
          with_reducible rfl
         rotate_left
         ·simp only[Act.put,za,zb,zc,i64_w,i32_w];rfl
         refine take_ (i:=14) (N:=some 48) (v:= ?_) (a' := ?_) #[t_,t_,t_,t_,t_,t_,t_,t_,t_,t_,t_,t_,t_,t_,t_,t_,t_,t_,t_,t_,f_,f_,f_,t_,t_,f_,t_,t_,t_,t_,f_,f_,f_,f_] rfl rfl (take_ofW HT_.out HW_.out (by kernel_rfl)) (fun _ _ _ h=>h) (Or.inl ⟨by rfl,?_⟩) hHeld ?_ ?_;rotate_left
         ·rintro w' ⟨s0,s1,s2,s3,s4,s5,s6,s7,s8,s9,s10,s11,s12,s13,s14,s15⟩;go_simp
          with_reducible rfl
         rotate_left
         ·simp only[Act.put,za,zb,zc,i64_w,i32_w];rfl
         refine take_ (i:=20) (N:=some 54) (v:= ?_) (a' := ?_) #[t_,t_,t_,t_,t_,t_,t_,t_,t_,t_,t_,t_,t_,t_,t_,t_,t_,t_,t_,t_,t_,f_,f_,t_,t_,f_,t_,t_,t_,t_,f_,f_,f_,f_] rfl rfl (take_ofW HT_.out HW_.out (by kernel_rfl)) (fun _ _ _ h=>h) (Or.inl ⟨by rfl,?_⟩) hHeld ?_ ?_;rotate_left
         ·rintro w' ⟨s0,s1,s2,s3,s4,s5,s6,s7,s8,s9,s10,s11,s12,s13,s14,s15⟩;go_simp
          with_reducible rfl
         rotate_left
         ·simp only[Act.put,za,zb,zc,i64_w,i32_w];rfl
         refine pure_ (i:=21) (N:=some 55) (v:= ?_) (a' := ?_) #[t_,t_,t_,t_,t_,t_,t_,t_,t_,t_,t_,t_,t_,t_,t_,t_,t_,t_,t_,t_,t_,t_,f_,t_,t_,f_,t_,t_,t_,t_,f_,f_,f_,f_] rfl rfl (any_of HT_.out (by kernel_rfl)) (fun _ _ _ h=>h) (Or.inl ⟨by rfl,?_⟩) ?_ ?_;rotate_left
         ·intro w';go_simp
          with_reducible rfl
         rotate_left
         ·simp only[Act.put,za,zb,zc,i64_w,i32_w];rfl
         refine pure_ (i:=22) (N:=some 56) (v:= ?_) (a' := ?_) #[t_,t_,t_,t_,t_,t_,t_,t_,t_,t_,t_,t_,t_,t_,t_,t_,t_,t_,t_,t_,t_,t_,t_,t_,t_,f_,t_,t_,t_,t_,f_,f_,f_,f_] rfl rfl (any_of HT_.out (by kernel_rfl)) (fun _ _ _ h=>h) (Or.inl ⟨by rfl,?_⟩) ?_ ?_;rotate_left
         ·intro w';go_simp
          with_reducible rfl
         rotate_left
         ·simp only[Act.put,za,zb,zc,i64_w,i32_w];rfl
         refine take_ (i:=25) (N:=some 59) (v:= ?_) (a' := ?_) #[t_,t_,t_,t_,t_,t_,t_,t_,t_,t_,t_,t_,t_,t_,t_,t_,t_,t_,t_,t_,t_,t_,t_,t_,t_,t_,t_,t_,t_,t_,f_,f_,f_,f_] rfl rfl (take_ofW HT_.out HW_.out (by kernel_rfl)) (fun _ _ _ h=>h) (Or.inl ⟨by rfl,?_⟩) hHeld ?_ ?_;rotate_left
         ·rintro w' ⟨s0,s1,s2,s3,s4,s5,s6,s7,s8,s9,s10,s11,s12,s13,s14,s15⟩;go_simp
          with_reducible rfl
         rotate_left
         ·simp only[Act.put,za,zb,zc,i64_w,i32_w];rfl
         refine take_ (i:=30) (N:=some 64) (v:= ?_) (a' := ?_) #[t_,t_,t_,t_,t_,t_,t_,t_,t_,t_,t_,t_,t_,t_,t_,t_,t_,t_,t_,t_,t_,t_,t_,t_,t_,t_,t_,t_,t_,t_,t_,f_,f_,f_] rfl rfl (take_ofW HT_.out HW_.out (by kernel_rfl)) (fun _ _ _ h=>h) (Or.inl ⟨by rfl,?_⟩) hHeld ?_ ?_;rotate_left
         ·rintro w' ⟨s0,s1,s2,s3,s4,s5,s6,s7,s8,s9,s10,s11,s12,s13,s14,s15⟩;go_simp
          with_reducible rfl
         rotate_left
         ·simp only[Act.put,za,zb,zc,i64_w,i32_w];rfl
         refine one_ (i:=31) (N:=some 65) #[t_,t_,t_,t_,t_,t_,t_,t_,t_,t_,t_,t_,t_,t_,t_,t_,t_,t_,t_,t_,t_,t_,t_,t_,t_,t_,t_,t_,t_,t_,t_,t_,f_,f_] rfl rfl (one_of HT_.out (by kernel_rfl)) (by decide) (fun K hK=> ?_);refine goes_ Try.func67 (by kernel_rfl) rfl #[.int .i64 a0,.int .i64 x178003_2,.int .i64 ((rd_T70 x1_1 x9_2).f2)] (by rfl) rfl rfl (by(try simp only[List.map_toArray,List.map_cons,List.map_nil]);first|done|rfl|(simp only[List.length_drop,List.length_take];rfl)) ?_
         with_reducible refine(leatref10_Merge.calls k2 a0 x178003_2 ((rd_T70 x1_1 x9_2).f2) t190 _ A12.out).mono ?_
         rintro e w17 ⟨rfl,hb⟩;have HS4_:=(hb.cell (World.block_lt_of_cell? _ _ (hHeld.2.2.2.2.1))).trans (hHeld.2.2.2.2.1);have HS5_:=(hb.cell (World.block_lt_of_cell? _ _ (hHeld.2.2.2.2.2.1))).trans (hHeld.2.2.2.2.2.1);have HS6_:=(hb.cell (World.block_lt_of_cell? _ _ (hHeld.2.2.2.2.2.2.1))).trans (hHeld.2.2.2.2.2.2.1);have HS7_:=(hb.cell (World.block_lt_of_cell? _ _ (hHeld.2.2.2.2.2.2.2.1))).trans (hHeld.2.2.2.2.2.2.2.1);have HS8_:=(hb.cell (World.block_lt_of_cell? _ _ (hHeld.2.2.2.2.2.2.2.2.1))).trans (hHeld.2.2.2.2.2.2.2.2.1);have HS9_:=(hb.cell (World.block_lt_of_cell? _ _ (hHeld.2.2.2.2.2.2.2.2.2.1))).trans (hHeld.2.2.2.2.2.2.2.2.2.1);have HS10_:=(hb.cell (World.block_lt_of_cell? _ _ (hHeld.2.2.2.2.2.2.2.2.2.2.1))).trans (hHeld.2.2.2.2.2.2.2.2.2.2.1);have HS11_:=(hb.cell (World.block_lt_of_cell? _ _ (hHeld.2.2.2.2.2.2.2.2.2.2.2.1))).trans (hHeld.2.2.2.2.2.2.2.2.2.2.2.1);have HS12_:=(hb.cell (World.block_lt_of_cell? _ _ (hHeld.2.2.2.2.2.2.2.2.2.2.2.2.1))).trans (hHeld.2.2.2.2.2.2.2.2.2.2.2.2.1);have HS13_:=(hb.cell (World.block_lt_of_cell? _ _ (hHeld.2.2.2.2.2.2.2.2.2.2.2.2.2.1))).trans (hHeld.2.2.2.2.2.2.2.2.2.2.2.2.2.1);have HS14_:=(hb.cell (World.block_lt_of_cell? _ _ (hHeld.2.2.2.2.2.2.2.2.2.2.2.2.2.2.1))).trans (hHeld.2.2.2.2.2.2.2.2.2.2.2.2.2.2.1);have HS15_:=(hb.cell (World.block_lt_of_cell? _ _ (hHeld.2.2.2.2.2.2.2.2.2.2.2.2.2.2.2))).trans (hHeld.2.2.2.2.2.2.2.2.2.2.2.2.2.2.2);refine⟨_,rfl,?_⟩;have n0_:=zd (zr (by(with_reducible repeat (first|apply ze|apply zf|apply zg));exact HO_1.out) hb);have n1_:=zd (zr (by(with_reducible repeat (first|apply ze|apply zf|apply zg));exact HO_7.out) hb);have n2_:=zd (zp (g:=gb177) (o:= .cells #[.int .i64 x178000_2,.int .i64 x178001_2,.int .i64 x178002_2,.int .i64 x178003_2] 70 (0,0)) (by(with_reducible repeat (first|refine zk ?_ _|refine zl ?_|refine zm ?_ _));exact BK177.out) hb);have n3_:=zd (Kept.below (S:=(fun k_=>P1_ k_)) (by repeat (first|(with_reducible first|exact HK.out|apply Kept.alloc|apply Kept.drewN|apply Kept.drew|refine Kept.setCell ?_ (.inr GW177.out) _)|exact HK.out)) hb);have n4_:=zd (zs (by repeat (first|(with_reducible first|exact HB.out|apply zh|apply zi|apply zj|refine zn ?_ GE177.out)|exact HB.out)) hb);clear HO_1;clear HO_7;clear BK177;clear HK;clear HB;have HO_1:=n0_;have HO_7:=n1_;have BK177:=n2_;have HK:=n3_;have HB:=n4_;clear n0_ n1_ n2_ n3_ n4_
         (try clear hb)
         (try clear hb2)
         (try clear hk)
         (try clear hi)
         refine hK.out _ _ ⟨(zo BK177.out 0).trans rfl,(zo BK177.out 1).trans rfl,(zo BK177.out 2).trans rfl,(zo BK177.out 3).trans rfl,HS4_,HS5_,HS6_,HS7_,HS8_,HS9_,HS10_,HS11_,HS12_,HS13_,HS14_,HS15_⟩ (fun hHeld=> ?_);clear hK K;refine norm_ (a' := ?_) ?_ ?_;rotate_left
         ·show Act.put _ (some 65) _=_;simp only[Act.put,za,zb,zc,i64_w,i32_w];rfl
         refine pure_ (i:=32) (N:=some 66) (v:= ?_) (a' := ?_) #[t_,t_,t_,t_,t_,t_,t_,t_,t_,t_,t_,t_,t_,t_,t_,t_,t_,t_,t_,t_,t_,t_,t_,t_,t_,t_,t_,t_,t_,t_,t_,t_,t_,f_] rfl rfl (any_of HT_.out (by kernel_rfl)) (fun _ _ _ h=>h) (Or.inl ⟨by rfl,?_⟩) ?_ ?_;rotate_left
         ·intro w';go_simp
          with_reducible rfl
         rotate_left
         ·simp only[Act.put,za,zb,zc,i64_w,i32_w];rfl
         refine last_ (i:=33) (N:=none) #[t_,t_,t_,t_,t_,t_,t_,t_,t_,t_,t_,t_,t_,t_,t_,t_,t_,t_,t_,t_,t_,t_,t_,t_,t_,t_,t_,t_,t_,t_,t_,t_,t_,t_] rfl rfl (one_of HT_.out (by kernel_rfl)) (by decide) (fun K hK=> ?_);have hs18:w17.cell? ⟨gb177,0,none⟩=some (.int .i64 x178000_2):=(zo BK177.out 0).trans rfl;have hfs18:=blk_frozen BK177.out 0;have hs19:w17.cell? ⟨gb177,1,none⟩=some (.int .i64 x178001_2):=(zo BK177.out 1).trans rfl;have hfs19:=blk_frozen BK177.out 1;have hs20:w17.cell? ⟨gb177,2,none⟩=some (.int .i64 x178002_2):=(zo BK177.out 2).trans rfl;have hfs20:=blk_frozen BK177.out 2;have hs21:w17.cell? ⟨gb177,3,none⟩=some (.int .i64 x178003_2):=(zo BK177.out 3).trans rfl;have hfs21:=blk_frozen BK177.out 3;refine skip_ (w1:= ?_) (by rfl) rfl ?_ ?_;rotate_left
         ·go_simp;rfl
         refine hK.out _ _ ?_;clear hK K;refine done_ (done_of HT_.out (by kernel_rfl)) ?_
         try go_wp2
         go_roundg k2
         case measure=>have:=HK1.out;have:=HK2.out;omega
         case rel=>exact⟨(x7_2),(true),(wrap64 (x9_2+1)),(x178000_2),(ji10),(ji11),(t190),(by first|rfl|(simp;done)|(simp[*];done)),(by first|rfl|(simp;done)|(simp[*];done)),H',⟨by have:=HK1.out;have:=HK2.out;omega⟩,⟨by(with_reducible repeat (first|apply ze|apply zf|apply zg));exact zq (Kd.R_far (p:=⟨gb177,3,none⟩) (Kd.R_far (p:=⟨gb177,2,none⟩) (Kd.R_far (p:=⟨gb177,1,none⟩) (Kd.R_far (p:=⟨gb177,0,none⟩) (zq HO_1.out (fun k_ hk=>(⟨hk,hk.2.2⟩:_/\k_≠gb177))) (fun _ hk=>hk.2) (.int .i64 x178000_2)) (fun _ hk=>hk.2) (.int .i64 ji10)) (fun _ hk=>hk.2) (.int .i64 ji11)) (fun _ hk=>hk.2) (.int .i64 t190)) (fun _ hk=>⟨hk.1.1,⟨hk.1.2.1,hk.1.2.2⟩⟩)⟩,⟨by(with_reducible repeat (first|apply ze|apply zf|apply zg));exact zq (Kd.R_far (p:=⟨gb177,3,none⟩) (Kd.R_far (p:=⟨gb177,2,none⟩) (Kd.R_far (p:=⟨gb177,1,none⟩) (Kd.R_far (p:=⟨gb177,0,none⟩) (zq HO_7.out (fun k_ hk=>(⟨hk,hk.2.2⟩:_/\k_≠gb177))) (fun _ hk=>hk.2) (.int .i64 x178000_2)) (fun _ hk=>hk.2) (.int .i64 ji10)) (fun _ hk=>hk.2) (.int .i64 ji11)) (fun _ hk=>hk.2) (.int .i64 t190)) (fun _ hk=>⟨hk.1.1,⟨hk.1.2.1,hk.1.2.2⟩⟩)⟩,⟨by(with_reducible repeat (first|refine zk ?_ _|refine zl ?_|refine zm ?_ _));refine blk_put (cs:= #[.int .i64 x178000_2,.int .i64 ji10,.int .i64 ji11,.int .i64 x178003_2]) ?_ 3 _ rfl;(with_reducible repeat (first|refine zk ?_ _|refine zl ?_|refine zm ?_ _));refine blk_put (cs:= #[.int .i64 x178000_2,.int .i64 ji10,.int .i64 x178002_2,.int .i64 x178003_2]) ?_ 2 _ rfl;(with_reducible repeat (first|refine zk ?_ _|refine zl ?_|refine zm ?_ _));refine blk_put (cs:= #[.int .i64 x178000_2,.int .i64 x178001_2,.int .i64 x178002_2,.int .i64 x178003_2]) ?_ 1 _ rfl;(with_reducible repeat (first|refine zk ?_ _|refine zl ?_|refine zm ?_ _));refine blk_put (cs:= #[.int .i64 x178000_2,.int .i64 x178001_2,.int .i64 x178002_2,.int .i64 x178003_2]) ?_ 0 _ rfl;(with_reducible repeat (first|refine zk ?_ _|refine zl ?_|refine zm ?_ _));exact BK177.out⟩,⟨by repeat (first|(with_reducible first|exact HK.out|apply Kept.alloc|apply Kept.drewN|apply Kept.drew|refine Kept.setCell ?_ (.inr GW177.out) _)|exact HK.out)⟩,⟨by repeat (first|(with_reducible first|exact HB.out|apply zh|apply zi|apply zj|refine zn ?_ GE177.out)|exact HB.out)⟩⟩
        ·replace c9:=Bool.eq_false_iff.mpr c9;subst c9;have H1:(if x7_2.length<4398046511104 then(leatref11_merge.l1 k2 a0 x1_1 (x7_2++[(⟨(rd_T70 x1_1 x9_2).f0,(⟨(rd_T70 x1_1 x9_2).f1.f0,(rd_T70 x1_1 x9_2).f1.f1⟩:S68),(rd_T70 x1_1 x9_2).f2⟩:S70)]) x8_2 (wrap64 (x9_2+1)) x178000_2 x178001_2 x178002_2 x178003_2) else(none))=some r:=by rw[if_neg (show ¬(false=true) by decide)] at H;exact H
         clear H;have H:=H1;clear H1;by_cases c22:x7_2.length<4398046511104
         ·rw[if_pos c22] at H;have LMc22:=zd c22;clear c22;obtain⟨y192,hy192⟩: ∃y_:List (S70),y_=(x7_2++[(⟨(rd_T70 x1_1 x9_2).f0,(⟨(rd_T70 x1_1 x9_2).f1.f0,(rd_T70 x1_1 x9_2).f1.f1⟩:S68),(rd_T70 x1_1 x9_2).f2⟩:S70)]):=⟨_,rfl⟩
          replace H:(leatref11_merge.l1 k2 a0 x1_1 y192 x8_2 (wrap64 (x9_2+1)) x178000_2 x178001_2 x178002_2 x178003_2)=some r:=by first|(rw[hy192];with_reducible exact H)|(have H2_:=(Option.bind_some _ _).symm.trans H;rw[hy192];with_reducible exact H2_)|(have H2_:=(Option.bind_some _ _).symm.trans H;with_reducible exact H2_)|with_reducible exact H|(rw[hy192];exact H)|exact H
          have Ny192:=zd hy192;clear hy192;have H' :=zd H;clear H;obtain⟨Ao23,co23,eo23⟩:=Kd.R_slice HO_1.out;subst eo23
          try go_wp2
          have n0_:=zd (zg HO_1.out);have n1_:=zd (zg HO_7.out);have n2_:=zd (zl BK177.out);have n3_:=zd (Kept.drew HK.out);have n4_:=zd (zj HB.out);clear HO_1;clear HO_7;clear BK177;clear HK;clear HB;have HO_1:=n0_;have HO_7:=n1_;have BK177:=n2_;have HK:=n3_;have HB:=n4_;clear n0_ n1_ n2_ n3_ n4_;have p184:0<=(x9_2:Int):=of_decide_eq_true (by first|(with_reducible assumption)|assumption);have q184:x9_2<(x1_1.length:Int):=of_decide_eq_true (by first|(with_reducible assumption)|assumption);obtain⟨ad184,e184,hx184_0,hx184_1,hx184_2,hx184_3⟩:=at_T70 (Kd.R_reads' HO_1.out).2.2 x9_2 p184 q184;cases e184;replace p184:=eq_true p184;replace q184:=eq_true q184;have p185:0<=(x9_2:Int):=of_decide_eq_true (by first|(with_reducible assumption)|assumption);have q185:x9_2<(x1_1.length:Int):=of_decide_eq_true (by first|(with_reducible assumption)|assumption);obtain⟨ad185,e185,hx185_0,hx185_1,hx185_2,hx185_3⟩:=at_T70 (Kd.R_reads' HO_1.out).2.2 x9_2 p185 q185;obtain rfl:ad184=ad185:=(by injection e185)
          replace p185:=eq_true p185;replace q185:=eq_true q185;refine start_ (n:=18) (S:=fun w'=>w'.cell? ⟨gb177,0,none⟩=some (.int .i64 x178000_2)/\w'.cell? ⟨gb177,1,none⟩=some (.int .i64 x178001_2)/\w'.cell? ⟨gb177,2,none⟩=some (.int .i64 x178002_2)/\w'.cell? ⟨gb177,3,none⟩=some (.int .i64 x178003_2)/\w'.cell? (ad184.add ((x9_2).toNat*4))=some (.int .i64 ((rd_T70 x1_1 x9_2).f0))/\w'.cell? ⟨(ad184.add ((x9_2).toNat*4)).block,(ad184.add ((x9_2).toNat*4)).off+1,none⟩=some (.int .i64 ((rd_T70 x1_1 x9_2).f1.f0))/\w'.cell? ⟨(ad184.add ((x9_2).toNat*4)).block,(ad184.add ((x9_2).toNat*4)).off+2,none⟩=some (.int .i64 ((rd_T70 x1_1 x9_2).f1.f1))/\w'.cell? ⟨(ad184.add ((x9_2).toNat*4)).block,(ad184.add ((x9_2).toNat*4)).off+3,none⟩=some (.int .i64 ((rd_T70 x1_1 x9_2).f2))/\w'.cell? (ad184.add ((x9_2).toNat*4))=some (.int .i64 ((rd_T70 x1_1 x9_2).f0))/\w'.cell? ⟨(ad184.add ((x9_2).toNat*4)).block,(ad184.add ((x9_2).toNat*4)).off+1,none⟩=some (.int .i64 ((rd_T70 x1_1 x9_2).f1.f0))/\w'.cell? ⟨(ad184.add ((x9_2).toNat*4)).block,(ad184.add ((x9_2).toNat*4)).off+2,none⟩=some (.int .i64 ((rd_T70 x1_1 x9_2).f1.f1))/\w'.cell? ⟨(ad184.add ((x9_2).toNat*4)).block,(ad184.add ((x9_2).toNat*4)).off+3,none⟩=some (.int .i64 ((rd_T70 x1_1 x9_2).f2))) (ds:=[]) #[f_,f_,f_,f_,f_,f_,f_,f_,f_,f_,f_,f_,f_,f_,f_,f_,f_,f_] (by kernel_rfl) rfl rfl ⟨(zo BK177.out 0).trans rfl,(zo BK177.out 1).trans rfl,(zo BK177.out 2).trans rfl,(zo BK177.out 3).trans rfl,hx184_0,hx184_1,hx184_2,hx184_3,hx185_0,hx185_1,hx185_2,hx185_3⟩ (fun hHeld=> ?_);refine with_tabW leatref11_merge.tab6 leatref11_merge.bits6 (fun HT_ HW_=> ?_);generalize wr.drew=w24 at HO_1 HO_7 BK177 HK HB hx184_0 hx184_1 hx184_2 hx184_3 hx185_0 hx185_1 hx185_2 hx185_3 hHeld ⊢;refine pure_ (i:=0) (N:=some 16) (v:= ?_) (a' := ?_) #[t_,f_,f_,f_,f_,f_,f_,f_,f_,f_,f_,f_,f_,f_,f_,f_,f_,f_] rfl rfl (any_of HT_.out (by kernel_rfl)) (fun _ _ _ h=>h) (Or.inl ⟨by rfl,?_⟩) ?_ ?_;rotate_left
          ·intro w';go_simp
           with_reducible rfl
          rotate_left
          ·simp only[Act.put,za,zb,zc,i64_w,i32_w];rfl
          refine pure_ (i:=1) (N:=some 17) (v:= ?_) (a' := ?_) #[t_,t_,f_,f_,f_,f_,f_,f_,f_,f_,f_,f_,f_,f_,f_,f_,f_,f_] rfl rfl (any_of HT_.out (by kernel_rfl)) (fun _ _ _ h=>h) (Or.inl ⟨by rfl,?_⟩) ?_ ?_;rotate_left
          ·intro w';go_simp
           with_reducible rfl
          rotate_left
          ·simp only[Act.put,za,zb,zc,i64_w,i32_w];rfl
          refine pure_ (i:=2) (N:=some 18) (v:= ?_) (a' := ?_) #[t_,t_,t_,f_,f_,f_,f_,f_,f_,f_,f_,f_,f_,f_,f_,f_,f_,f_] rfl rfl (any_of HT_.out (by kernel_rfl)) (fun _ _ _ h=>h) (Or.inl ⟨by rfl,?_⟩) ?_ ?_;rotate_left
          ·intro w';go_simp
           with_reducible rfl
          rotate_left
          ·simp only[Act.put,za,zb,zc,i64_w,i32_w];rfl
          refine pure_ (i:=3) (N:=some 19) (v:= ?_) (a' := ?_) #[t_,t_,t_,t_,f_,f_,f_,f_,f_,f_,f_,f_,f_,f_,f_,f_,f_,f_] rfl rfl (any_of HT_.out (by kernel_rfl)) (fun _ _ _ h=>h) (Or.inl ⟨by rfl,?_⟩) ?_ ?_;rotate_left
          ·intro w';go_simp
           with_reducible rfl
          rotate_left
          ·simp only[Act.put,za,zb,zc,i64_w,i32_w];rfl
          refine pure_ (i:=5) (N:=some 21) (v:= ?_) (a' := ?_) #[t_,t_,t_,t_,f_,t_,f_,f_,f_,f_,f_,f_,f_,f_,f_,f_,f_,f_] rfl rfl (any_of HT_.out (by kernel_rfl)) (fun _ _ _ h=>h) (Or.inl ⟨by rfl,?_⟩) ?_ ?_;rotate_left
          ·intro w';go_simp
           with_reducible rfl
          rotate_left
          ·simp only[Act.put,za,zb,zc,i64_w,i32_w];rfl
          refine take_ (i:=4) (N:=some 20) (v:= ?_) (a' := ?_) #[t_,t_,t_,t_,t_,t_,f_,f_,f_,f_,f_,f_,f_,f_,f_,f_,f_,f_] rfl rfl (take_ofW HT_.out HW_.out (by kernel_rfl)) (fun _ _ _ h=>h) (Or.inl ⟨by rfl,?_⟩) hHeld ?_ ?_;rotate_left
          ·rintro w' ⟨s0,s1,s2,s3,s4,s5,s6,s7,s8,s9,s10,s11⟩;go_simp
           with_reducible rfl
          rotate_left
          ·simp only[Act.put,za,zb,zc,i64_w,i32_w];rfl
          refine take_ (i:=6) (N:=some 22) (v:= ?_) (a' := ?_) #[t_,t_,t_,t_,t_,t_,t_,f_,f_,f_,f_,f_,f_,f_,f_,f_,f_,f_] rfl rfl (take_ofW HT_.out HW_.out (by kernel_rfl)) (fun _ _ _ h=>h) (Or.inl ⟨by rfl,?_⟩) hHeld ?_ ?_;rotate_left
          ·rintro w' ⟨s0,s1,s2,s3,s4,s5,s6,s7,s8,s9,s10,s11⟩;go_simp
           with_reducible rfl
          rotate_left
          ·simp only[Act.put,za,zb,zc,i64_w,i32_w];rfl
          refine pure_ (i:=7) (N:=some 23) (v:= ?_) (a' := ?_) #[t_,t_,t_,t_,t_,t_,t_,t_,f_,f_,f_,f_,f_,f_,f_,f_,f_,f_] rfl rfl (any_of HT_.out (by kernel_rfl)) (fun _ _ _ h=>h) (Or.inl ⟨by rfl,?_⟩) ?_ ?_;rotate_left
          ·intro w';go_simp
           with_reducible rfl
          rotate_left
          ·simp only[Act.put,za,zb,zc,i64_w,i32_w];rfl
          refine pure_ (i:=8) (N:=some 24) (v:= ?_) (a' := ?_) #[t_,t_,t_,t_,t_,t_,t_,t_,t_,f_,f_,f_,f_,f_,f_,f_,f_,f_] rfl rfl (any_of HT_.out (by kernel_rfl)) (fun _ _ _ h=>h) (Or.inl ⟨by rfl,?_⟩) ?_ ?_;rotate_left
          ·intro w';go_simp
           with_reducible rfl
          rotate_left
          ·simp only[Act.put,za,zb,zc,i64_w,i32_w];rfl
          refine pure_ (i:=9) (N:=some 25) (v:= ?_) (a' := ?_) #[t_,t_,t_,t_,t_,t_,t_,t_,t_,t_,f_,f_,f_,f_,f_,f_,f_,f_] rfl rfl (any_of HT_.out (by kernel_rfl)) (fun _ _ _ h=>h) (Or.inl ⟨by rfl,?_⟩) ?_ ?_;rotate_left
          ·intro w';go_simp
           with_reducible rfl
          rotate_left
          ·simp only[Act.put,za,zb,zc,i64_w,i32_w];rfl
          refine pure_ (i:=10) (N:=some 26) (v:= ?_) (a' := ?_) #[t_,t_,t_,t_,t_,t_,t_,t_,t_,t_,t_,f_,f_,f_,f_,f_,f_,f_] rfl rfl (any_of HT_.out (by kernel_rfl)) (fun _ _ _ h=>h) (Or.inl ⟨by rfl,?_⟩) ?_ ?_;rotate_left
          ·intro w';go_simp
           with_reducible rfl
          rotate_left
          ·simp only[Act.put,za,zb,zc,i64_w,i32_w];rfl
          refine pure_ (i:=11) (N:=some 27) (v:= ?_) (a' := ?_) #[t_,t_,t_,t_,t_,t_,t_,t_,t_,t_,t_,t_,f_,f_,f_,f_,f_,f_] rfl rfl (any_of HT_.out (by kernel_rfl)) (fun _ _ _ h=>h) (Or.inl ⟨by rfl,?_⟩) ?_ ?_;rotate_left
          ·intro w';go_simp
           with_reducible rfl
          rotate_left
          ·simp only[Act.put,za,zb,zc,i64_w,i32_w];rfl
          refine pure_ (i:=12) (N:=some 28) (v:= ?_) (a' := ?_) #[t_,t_,t_,t_,t_,t_,t_,t_,t_,t_,t_,t_,t_,f_,f_,f_,f_,f_] rfl rfl (any_of HT_.out (by kernel_rfl)) (fun _ _ _ h=>h) (Or.inl ⟨by rfl,?_⟩) ?_ ?_;rotate_left
          ·intro w';go_simp
           with_reducible rfl
          rotate_left
          ·simp only[Act.put,za,zb,zc,i64_w,i32_w];rfl
          refine pure_ (i:=14) (N:=some 30) (v:= ?_) (a' := ?_) #[t_,t_,t_,t_,t_,t_,t_,t_,t_,t_,t_,t_,t_,f_,t_,f_,f_,f_] rfl rfl (any_of HT_.out (by kernel_rfl)) (fun _ _ _ h=>h) (Or.inl ⟨by rfl,?_⟩) ?_ ?_;rotate_left
          ·intro w';go_simp
           with_reducible rfl
          rotate_left
          ·simp only[Act.put,za,zb,zc,i64_w,i32_w];rfl
          refine take_ (i:=13) (N:=some 29) (v:= ?_) (a' := ?_) #[t_,t_,t_,t_,t_,t_,t_,t_,t_,t_,t_,t_,t_,t_,t_,f_,f_,f_] rfl rfl (take_ofW HT_.out HW_.out (by kernel_rfl)) (fun _ _ _ h=>h) (Or.inl ⟨by rfl,?_⟩) hHeld ?_ ?_;rotate_left
          ·rintro w' ⟨s0,s1,s2,s3,s4,s5,s6,s7,s8,s9,s10,s11⟩;go_simp
           with_reducible rfl
          rotate_left
          ·simp only[Act.put,za,zb,zc,i64_w,i32_w];rfl
          refine take_ (i:=15) (N:=some 31) (v:= ?_) (a' := ?_) #[t_,t_,t_,t_,t_,t_,t_,t_,t_,t_,t_,t_,t_,t_,t_,t_,f_,f_] rfl rfl (take_ofW HT_.out HW_.out (by kernel_rfl)) (fun _ _ _ h=>h) (Or.inl ⟨by rfl,?_⟩) hHeld ?_ ?_;rotate_left
          ·rintro w' ⟨s0,s1,s2,s3,s4,s5,s6,s7,s8,s9,s10,s11⟩;go_simp
           with_reducible rfl
          rotate_left
          ·simp only[Act.put,za,zb,zc,i64_w,i32_w];rfl
          refine one_ (i:=16) (N:=some 32) #[t_,t_,t_,t_,t_,t_,t_,t_,t_,t_,t_,t_,t_,t_,t_,t_,t_,f_] rfl rfl (one_of HT_.out (by kernel_rfl)) (by decide) (fun K hK=> ?_);refine goes_ Try.func80 (by kernel_rfl) rfl #[.agg #[.int .i64 ((rd_T70 x1_1 x9_2).f1.f0),.int .i64 ((rd_T70 x1_1 x9_2).f1.f1)],.agg #[.int .i64 x178001_2,.int .i64 x178002_2]] (by rfl) rfl rfl (by(try simp only[List.map_toArray,List.map_cons,List.map_nil]);first|done|rfl|(simp only[List.length_drop,List.length_take];rfl)) ?_
          with_reducible refine(leatref11_overlap.calls ((rd_T70 x1_1 x9_2).f1.f0) ((rd_T70 x1_1 x9_2).f1.f1) x178001_2 x178002_2 false _ A8.out).mono ?_
          rintro e w25 ⟨rfl,hb⟩;have HS4_:=(hb.cell (World.block_lt_of_cell? _ _ (hHeld.2.2.2.2.1))).trans (hHeld.2.2.2.2.1);have HS5_:=(hb.cell (World.block_lt_of_cell? _ _ (hHeld.2.2.2.2.2.1))).trans (hHeld.2.2.2.2.2.1);have HS6_:=(hb.cell (World.block_lt_of_cell? _ _ (hHeld.2.2.2.2.2.2.1))).trans (hHeld.2.2.2.2.2.2.1);have HS7_:=(hb.cell (World.block_lt_of_cell? _ _ (hHeld.2.2.2.2.2.2.2.1))).trans (hHeld.2.2.2.2.2.2.2.1);have HS8_:=(hb.cell (World.block_lt_of_cell? _ _ (hHeld.2.2.2.2.2.2.2.2.1))).trans (hHeld.2.2.2.2.2.2.2.2.1);have HS9_:=(hb.cell (World.block_lt_of_cell? _ _ (hHeld.2.2.2.2.2.2.2.2.2.1))).trans (hHeld.2.2.2.2.2.2.2.2.2.1);have HS10_:=(hb.cell (World.block_lt_of_cell? _ _ (hHeld.2.2.2.2.2.2.2.2.2.2.1))).trans (hHeld.2.2.2.2.2.2.2.2.2.2.1);have HS11_:=(hb.cell (World.block_lt_of_cell? _ _ (hHeld.2.2.2.2.2.2.2.2.2.2.2))).trans (hHeld.2.2.2.2.2.2.2.2.2.2.2);refine⟨_,rfl,?_⟩;have n0_:=zd (zr (by(with_reducible repeat (first|apply ze|apply zf|apply zg));exact HO_1.out) hb);have n1_:=zd (zr (by(with_reducible repeat (first|apply ze|apply zf|apply zg));exact HO_7.out) hb);have n2_:=zd (zp (g:=gb177) (o:= .cells #[.int .i64 x178000_2,.int .i64 x178001_2,.int .i64 x178002_2,.int .i64 x178003_2] 70 (0,0)) (by(with_reducible repeat (first|refine zk ?_ _|refine zl ?_|refine zm ?_ _));exact BK177.out) hb);have n3_:=zd (Kept.below (S:=(fun k_=>P1_ k_)) (by repeat (first|(with_reducible first|exact HK.out|apply Kept.alloc|apply Kept.drewN|apply Kept.drew|refine Kept.setCell ?_ (.inr GW177.out) _)|exact HK.out)) hb);have n4_:=zd (zs (by repeat (first|(with_reducible first|exact HB.out|apply zh|apply zi|apply zj|refine zn ?_ GE177.out)|exact HB.out)) hb);clear HO_1;clear HO_7;clear BK177;clear HK;clear HB;have HO_1:=n0_;have HO_7:=n1_;have BK177:=n2_;have HK:=n3_;have HB:=n4_;clear n0_ n1_ n2_ n3_ n4_
          (try clear hb)
          (try clear hb2)
          (try clear hk)
          (try clear hi)
          refine hK.out _ _ ⟨(zo BK177.out 0).trans rfl,(zo BK177.out 1).trans rfl,(zo BK177.out 2).trans rfl,(zo BK177.out 3).trans rfl,HS4_,HS5_,HS6_,HS7_,HS8_,HS9_,HS10_,HS11_⟩ (fun hHeld=> ?_);clear hK K;refine norm_ (a' := ?_) ?_ ?_;rotate_left
          ·show Act.put _ (some 32) _=_;simp only[Act.put,za,zb,zc,i64_w,i32_w];rfl
          refine pure_ (i:=17) (N:=some 33) (v:= ?_) (a' := ?_) #[t_,t_,t_,t_,t_,t_,t_,t_,t_,t_,t_,t_,t_,t_,t_,t_,t_,t_] rfl rfl (any_of HT_.out (by kernel_rfl)) (fun _ _ _ h=>h) (Or.inl ⟨by rfl,?_⟩) ?_ ?_;rotate_left
          ·intro w';go_simp
           with_reducible rfl
          rotate_left
          ·simp only[Act.put,za,zb,zc,i64_w,i32_w];rfl
          refine done_ (done_of HT_.out (by kernel_rfl)) ?_;have p191:0<=(x9_2:Int):=of_decide_eq_true (by first|(with_reducible assumption)|assumption);have q191:x9_2<(x1_1.length:Int):=of_decide_eq_true (by first|(with_reducible assumption)|assumption);obtain⟨ad191,e191,hx191_0,hx191_1,hx191_2,hx191_3⟩:=at_T70 (Kd.R_reads' HO_1.out).2.2 x9_2 p191 q191;obtain rfl:ad184=ad191:=(by injection e191)
          replace p191:=eq_true p191;replace q191:=eq_true q191
          try go_wp2_with (first|((with_reducible refine gate_builtin (b:= .append) (xs:= #[.tmp 67,.tmp 72]) rfl ?_);at_builtin;refine Kd.R_append k70 (w0:=w0) w0.heap.size rfl (.tmp 67) (.tmp 72) 44 70 (.agg #[(.int .i64 0),(.int .i64 0),(.int .i64 0),(.int .i64 0)]) 32 rfl Try.underlying44 info70 rfl (by decide) (by omega) u7 x7_2 (⟨(rd_T70 x1_1 x9_2).f0,(⟨(rd_T70 x1_1 x9_2).f1.f0,(rd_T70 x1_1 x9_2).f1.f1⟩:S68),(rd_T70 x1_1 x9_2).f2⟩:S70) [.int .i64 ((rd_T70 x1_1 x9_2).f0),.int .i64 ((rd_T70 x1_1 x9_2).f1.f0),.int .i64 ((rd_T70 x1_1 x9_2).f1.f1),.int .i64 ((rd_T70 x1_1 x9_2).f2)] (fun k_=>(P1_ k_∨w.heap.size<=k_)/\some k_≠(.slice (some ad184) x1_1.length co23:Value).ownBlock/\k_≠gb177) (fun _=>False) rfl rfl ?aP (fun _ hk=>hk.elim) ?aF ?aO ?aB ?aS ?aL ?_;(case aP=>exact k70_mkM _ _ _ (⟨(rd_T70 x1_1 x9_2).f0,(⟨(rd_T70 x1_1 x9_2).f1.f0,(rd_T70 x1_1 x9_2).f1.f1⟩:S68),(rd_T70 x1_1 x9_2).f2⟩:S70));(case aB=>exact(by repeat (first|(with_reducible first|exact HB.out|apply zh|apply zi|apply zj|refine zn ?_ GE177.out)|exact HB.out)));(case aF=>exact(fun k_ hk=>⟨(.inr (Nat.le_trans (by first|exact HK.out.1|exact(show Kept w _ (fun k_=>P1_ k_) from by repeat (first|(with_reducible first|exact HK.out|apply Kept.alloc|apply Kept.drewN|apply Kept.drew|refine Kept.setCell ?_ (.inr GW177.out) _)|exact HK.out)).1) hk)),Kd.fresh' (Kd.R_lt (by(with_reducible repeat (first|apply ze|apply zf|apply zg));exact HO_1.out)) k_ hk,Kd.freshB (g:=gb177) (o:= .cells #[.int .i64 x178000_2,.int .i64 x178001_2,.int .i64 x178002_2,.int .i64 x178003_2] 70 (0,0)) (by(with_reducible repeat (first|refine zk ?_ _|refine zl ?_|refine zm ?_ _));exact BK177.out) k_ hk⟩));(case aO=>exact(by(with_reducible repeat (first|apply ze|apply zf|apply zg));exact HO_7.out));(case aS=>exact(below_size (by repeat (first|(with_reducible first|exact HB.out|apply zh|apply zi|apply zj|refine zn ?_ GE177.out)|exact HB.out))));(case aL=>have:=LMc22.out;omega);intro v193 w26 ho hb hg hat;rw[←Ny192.out] at ho;have n0_:=zd (Kd.R_after (ok:=(fun k_=>(P1_ k_∨w.heap.size<=k_)/\k_≠gb177)) (by(with_reducible repeat (first|apply ze|apply zf|apply zg));exact zq HO_1.out (fun _ hk=>⟨⟨hk.1,hk.2.2⟩,hk.2.1⟩)) hg hat);have n1_:=zd (blk_grown (g:=gb177) (o:= .cells #[.int .i64 x178000_2,.int .i64 x178001_2,.int .i64 x178002_2,.int .i64 x178003_2] 70 (0,0)) (by(with_reducible repeat (first|refine zk ?_ _|refine zl ?_|refine zm ?_ _));exact BK177.out) hg (Kd.R_away HO_7.out (fun _ hk=>hk.2.2)));have n2_:=zd (hb);have n3_:=zd (Kept.of_grown (S:=(fun k_=>P1_ k_)) hg (by repeat (first|(with_reducible first|exact HK.out|apply Kept.alloc|apply Kept.drewN|apply Kept.drew|refine Kept.setCell ?_ (.inr GW177.out) _)|exact HK.out)) (fun k_ e_=>(HO_7.out.1 k_ e_).1));have n4_:=zd (ho);clear HO_1;clear BK177;clear HB;clear HK;clear HO_7;have HO_1:=n0_;have BK177:=n1_;have HB:=n2_;have HK:=n3_;have HO194:=n4_;clear n0_ n1_ n2_ n3_ n4_;clear ho hb hg hat))
          go_roundg k2
          case measure=>have:=HK1.out;have:=HK2.out;omega
          case rel=>exact⟨(y192),(x8_2),(wrap64 (x9_2+1)),(x178000_2),(x178001_2),(x178002_2),(x178003_2),(by first|rfl|(simp;done)|(simp[*];done)),(by first|rfl|(simp;done)|(simp[*];done)),H',⟨by have:=HK1.out;have:=HK2.out;omega⟩,⟨by(with_reducible repeat (first|apply ze|apply zf|apply zg));exact zq HO_1.out (fun _ hk=>⟨hk.1.1,⟨hk.2,hk.1.2⟩⟩)⟩,⟨by(with_reducible repeat (first|apply ze|apply zf|apply zg));exact HO194.out⟩,⟨by(with_reducible repeat (first|refine zk ?_ _|refine zl ?_|refine zm ?_ _));exact BK177.out⟩,⟨by repeat (first|(with_reducible first|exact HK.out|apply Kept.alloc|apply Kept.drewN|apply Kept.drew|refine Kept.setCell ?_ (.inr GW177.out) _)|exact HK.out)⟩,⟨by repeat (first|(with_reducible first|exact HB.out|apply zh|apply zi|apply zj|refine zn ?_ GE177.out)|exact HB.out)⟩⟩
         ·rw[if_neg c22] at H;exact absurd H (by simp)
       ·rw[if_neg c7] at H;have c7b0:(((rd_T70 x1_1 x9_2).f0)==x178000_2)=false:=beq_eq_false_iff_ne.mpr c7;have c7b1:(((rd_T70 x1_1 x9_2).f0) !=x178000_2)=true:=bne_iff_ne.mpr c7;by_cases c27:x7_2.length<4398046511104
        ·rw[if_pos c27] at H;have LMc27:=zd c27;clear c27;obtain⟨y196,hy196⟩: ∃y_:List (S70),y_=(x7_2++[(⟨(rd_T70 x1_1 x9_2).f0,(⟨(rd_T70 x1_1 x9_2).f1.f0,(rd_T70 x1_1 x9_2).f1.f1⟩:S68),(rd_T70 x1_1 x9_2).f2⟩:S70)]):=⟨_,rfl⟩
         replace H:(leatref11_merge.l1 k2 a0 x1_1 y196 x8_2 (wrap64 (x9_2+1)) x178000_2 x178001_2 x178002_2 x178003_2)=some r:=by first|(rw[hy196];with_reducible exact H)|(have H2_:=(Option.bind_some _ _).symm.trans H;rw[hy196];with_reducible exact H2_)|(have H2_:=(Option.bind_some _ _).symm.trans H;with_reducible exact H2_)|with_reducible exact H|(rw[hy196];exact H)|exact H
         have Ny196:=zd hy196;clear hy196;have H' :=zd H;clear H;obtain⟨Ao28,co28,eo28⟩:=Kd.R_slice HO_1.out;subst eo28
         try go_wp2
         have n0_:=zd (zg HO_1.out);have n1_:=zd (zg HO_7.out);have n2_:=zd (zl BK177.out);have n3_:=zd (Kept.drew HK.out);have n4_:=zd (zj HB.out);clear HO_1;clear HO_7;clear BK177;clear HK;clear HB;have HO_1:=n0_;have HO_7:=n1_;have BK177:=n2_;have HK:=n3_;have HB:=n4_;clear n0_ n1_ n2_ n3_ n4_;have p184:0<=(x9_2:Int):=of_decide_eq_true (by first|(with_reducible assumption)|assumption);have q184:x9_2<(x1_1.length:Int):=of_decide_eq_true (by first|(with_reducible assumption)|assumption);obtain⟨ad184,e184,hx184_0,hx184_1,hx184_2,hx184_3⟩:=at_T70 (Kd.R_reads' HO_1.out).2.2 x9_2 p184 q184;cases e184;replace p184:=eq_true p184;replace q184:=eq_true q184;refine start_ (n:=18) (S:=fun w'=>w'.cell? ⟨gb177,0,none⟩=some (.int .i64 x178000_2)/\w'.cell? ⟨gb177,1,none⟩=some (.int .i64 x178001_2)/\w'.cell? ⟨gb177,2,none⟩=some (.int .i64 x178002_2)/\w'.cell? ⟨gb177,3,none⟩=some (.int .i64 x178003_2)/\w'.cell? (ad184.add ((x9_2).toNat*4))=some (.int .i64 ((rd_T70 x1_1 x9_2).f0))/\w'.cell? ⟨(ad184.add ((x9_2).toNat*4)).block,(ad184.add ((x9_2).toNat*4)).off+1,none⟩=some (.int .i64 ((rd_T70 x1_1 x9_2).f1.f0))/\w'.cell? ⟨(ad184.add ((x9_2).toNat*4)).block,(ad184.add ((x9_2).toNat*4)).off+2,none⟩=some (.int .i64 ((rd_T70 x1_1 x9_2).f1.f1))/\w'.cell? ⟨(ad184.add ((x9_2).toNat*4)).block,(ad184.add ((x9_2).toNat*4)).off+3,none⟩=some (.int .i64 ((rd_T70 x1_1 x9_2).f2))) (ds:=[]) #[f_,f_,f_,f_,f_,f_,f_,f_,f_,f_,f_,f_,f_,f_,f_,f_,f_,f_] (by kernel_rfl) rfl rfl ⟨(zo BK177.out 0).trans rfl,(zo BK177.out 1).trans rfl,(zo BK177.out 2).trans rfl,(zo BK177.out 3).trans rfl,hx184_0,hx184_1,hx184_2,hx184_3⟩ (fun hHeld=> ?_);refine with_tabW leatref11_merge.tab6 leatref11_merge.bits6 (fun HT_ HW_=> ?_);generalize wr.drew=w29 at HO_1 HO_7 BK177 HK HB hx184_0 hx184_1 hx184_2 hx184_3 hHeld ⊢;refine pure_ (i:=0) (N:=some 16) (v:= ?_) (a' := ?_) #[t_,f_,f_,f_,f_,f_,f_,f_,f_,f_,f_,f_,f_,f_,f_,f_,f_,f_] rfl rfl (any_of HT_.out (by kernel_rfl)) (fun _ _ _ h=>h) (Or.inl ⟨by rfl,?_⟩) ?_ ?_;rotate_left
         ·intro w';go_simp
          with_reducible rfl
         rotate_left
         ·simp only[Act.put,za,zb,zc,i64_w,i32_w];rfl
         refine pure_ (i:=1) (N:=some 17) (v:= ?_) (a' := ?_) #[t_,t_,f_,f_,f_,f_,f_,f_,f_,f_,f_,f_,f_,f_,f_,f_,f_,f_] rfl rfl (any_of HT_.out (by kernel_rfl)) (fun _ _ _ h=>h) (Or.inl ⟨by rfl,?_⟩) ?_ ?_;rotate_left
         ·intro w';go_simp
          with_reducible rfl
         rotate_left
         ·simp only[Act.put,za,zb,zc,i64_w,i32_w];rfl
         refine pure_ (i:=2) (N:=some 18) (v:= ?_) (a' := ?_) #[t_,t_,t_,f_,f_,f_,f_,f_,f_,f_,f_,f_,f_,f_,f_,f_,f_,f_] rfl rfl (any_of HT_.out (by kernel_rfl)) (fun _ _ _ h=>h) (Or.inl ⟨by rfl,?_⟩) ?_ ?_;rotate_left
         ·intro w';go_simp
          with_reducible rfl
         rotate_left
         ·simp only[Act.put,za,zb,zc,i64_w,i32_w];rfl
         refine pure_ (i:=3) (N:=some 19) (v:= ?_) (a' := ?_) #[t_,t_,t_,t_,f_,f_,f_,f_,f_,f_,f_,f_,f_,f_,f_,f_,f_,f_] rfl rfl (any_of HT_.out (by kernel_rfl)) (fun _ _ _ h=>h) (Or.inl ⟨by rfl,?_⟩) ?_ ?_;rotate_left
         ·intro w';go_simp
          with_reducible rfl
         rotate_left
         ·simp only[Act.put,za,zb,zc,i64_w,i32_w];rfl
         refine pure_ (i:=5) (N:=some 21) (v:= ?_) (a' := ?_) #[t_,t_,t_,t_,f_,t_,f_,f_,f_,f_,f_,f_,f_,f_,f_,f_,f_,f_] rfl rfl (any_of HT_.out (by kernel_rfl)) (fun _ _ _ h=>h) (Or.inl ⟨by rfl,?_⟩) ?_ ?_;rotate_left
         ·intro w';go_simp
          with_reducible rfl
         rotate_left
         ·simp only[Act.put,za,zb,zc,i64_w,i32_w];rfl
         refine take_ (i:=4) (N:=some 20) (v:= ?_) (a' := ?_) #[t_,t_,t_,t_,t_,t_,f_,f_,f_,f_,f_,f_,f_,f_,f_,f_,f_,f_] rfl rfl (take_ofW HT_.out HW_.out (by kernel_rfl)) (fun _ _ _ h=>h) (Or.inl ⟨by rfl,?_⟩) hHeld ?_ ?_;rotate_left
         ·rintro w' ⟨s0,s1,s2,s3,s4,s5,s6,s7⟩;go_simp
          with_reducible rfl
         rotate_left
         ·simp only[Act.put,za,zb,zc,i64_w,i32_w];rfl
         refine take_ (i:=6) (N:=some 22) (v:= ?_) (a' := ?_) #[t_,t_,t_,t_,t_,t_,t_,f_,f_,f_,f_,f_,f_,f_,f_,f_,f_,f_] rfl rfl (take_ofW HT_.out HW_.out (by kernel_rfl)) (fun _ _ _ h=>h) (Or.inl ⟨by rfl,?_⟩) hHeld ?_ ?_;rotate_left
         ·rintro w' ⟨s0,s1,s2,s3,s4,s5,s6,s7⟩;go_simp
          with_reducible rfl
         rotate_left
         ·simp only[Act.put,za,zb,zc,i64_w,i32_w];rfl
         refine pure_ (i:=7) (N:=some 23) (v:= ?_) (a' := ?_) #[t_,t_,t_,t_,t_,t_,t_,t_,f_,f_,f_,f_,f_,f_,f_,f_,f_,f_] rfl rfl (any_of HT_.out (by kernel_rfl)) (fun _ _ _ h=>h) (Or.inl ⟨by rfl,?_⟩) ?_ ?_;rotate_left
         ·intro w';go_simp
          with_reducible rfl
         rotate_left
         ·simp only[Act.put,za,zb,zc,i64_w,i32_w];rfl
         refine pure_ (i:=8) (N:=some 24) (v:= ?_) (a' := ?_) #[t_,t_,t_,t_,t_,t_,t_,t_,t_,f_,f_,f_,f_,f_,f_,f_,f_,f_] rfl rfl (any_of HT_.out (by kernel_rfl)) (fun _ _ _ h=>h) (Or.inl ⟨by rfl,?_⟩) ?_ ?_;rotate_left
         ·intro w';go_simp
          with_reducible rfl
         rotate_left
         ·simp only[Act.put,za,zb,zc,i64_w,i32_w];rfl
         refine pure_ (i:=9) (N:=some 25) (v:=undef) (a' := ?_) #[t_,t_,t_,t_,t_,t_,t_,t_,t_,t_,f_,f_,f_,f_,f_,f_,f_,f_] rfl rfl (any_of HT_.out (by kernel_rfl)) (fun _ _ _ h=>h) (Or.inr ⟨by rfl,rfl⟩) ?_ ?_;rotate_left
         ·simp only[Act.put,za,zb,zc,i64_w,i32_w];rfl
         refine pure_ (i:=10) (N:=some 26) (v:=undef) (a' := ?_) #[t_,t_,t_,t_,t_,t_,t_,t_,t_,t_,t_,f_,f_,f_,f_,f_,f_,f_] rfl rfl (any_of HT_.out (by kernel_rfl)) (fun _ _ _ h=>h) (Or.inr ⟨by rfl,rfl⟩) ?_ ?_;rotate_left
         ·simp only[Act.put,za,zb,zc,i64_w,i32_w];rfl
         refine pure_ (i:=11) (N:=some 27) (v:=undef) (a' := ?_) #[t_,t_,t_,t_,t_,t_,t_,t_,t_,t_,t_,t_,f_,f_,f_,f_,f_,f_] rfl rfl (any_of HT_.out (by kernel_rfl)) (fun _ _ _ h=>h) (Or.inr ⟨by rfl,rfl⟩) ?_ ?_;rotate_left
         ·simp only[Act.put,za,zb,zc,i64_w,i32_w];rfl
         refine pure_ (i:=12) (N:=some 28) (v:=undef) (a' := ?_) #[t_,t_,t_,t_,t_,t_,t_,t_,t_,t_,t_,t_,t_,f_,f_,f_,f_,f_] rfl rfl (any_of HT_.out (by kernel_rfl)) (fun _ _ _ h=>h) (Or.inr ⟨by rfl,rfl⟩) ?_ ?_;rotate_left
         ·simp only[Act.put,za,zb,zc,i64_w,i32_w];rfl
         refine pure_ (i:=13) (N:=some 29) (v:=undef) (a' := ?_) #[t_,t_,t_,t_,t_,t_,t_,t_,t_,t_,t_,t_,t_,t_,f_,f_,f_,f_] rfl rfl (any_of HT_.out (by kernel_rfl)) (fun _ _ _ h=>h) (Or.inr ⟨by rfl,rfl⟩) ?_ ?_;rotate_left
         ·simp only[Act.put,za,zb,zc,i64_w,i32_w];rfl
         refine pure_ (i:=14) (N:=some 30) (v:=undef) (a' := ?_) #[t_,t_,t_,t_,t_,t_,t_,t_,t_,t_,t_,t_,t_,t_,t_,f_,f_,f_] rfl rfl (any_of HT_.out (by kernel_rfl)) (fun _ _ _ h=>h) (Or.inr ⟨by rfl,rfl⟩) ?_ ?_;rotate_left
         ·simp only[Act.put,za,zb,zc,i64_w,i32_w];rfl
         refine pure_ (i:=15) (N:=some 31) (v:=undef) (a' := ?_) #[t_,t_,t_,t_,t_,t_,t_,t_,t_,t_,t_,t_,t_,t_,t_,t_,f_,f_] rfl rfl (any_of HT_.out (by kernel_rfl)) (fun _ _ _ h=>h) (Or.inr ⟨by rfl,rfl⟩) ?_ ?_;rotate_left
         ·simp only[Act.put,za,zb,zc,i64_w,i32_w];rfl
         refine pure_ (i:=16) (N:=some 32) (v:=undef) (a' := ?_) #[t_,t_,t_,t_,t_,t_,t_,t_,t_,t_,t_,t_,t_,t_,t_,t_,t_,f_] rfl rfl (any_of HT_.out (by kernel_rfl)) (fun _ _ _ h=>h) (Or.inr ⟨by rfl,rfl⟩) ?_ ?_;rotate_left
         ·simp only[Act.put,za,zb,zc,i64_w,i32_w];rfl
         refine pure_ (i:=17) (N:=some 33) (v:= ?_) (a' := ?_) #[t_,t_,t_,t_,t_,t_,t_,t_,t_,t_,t_,t_,t_,t_,t_,t_,t_,t_] rfl rfl (any_of HT_.out (by kernel_rfl)) (fun _ _ _ h=>h) (Or.inl ⟨by rfl,?_⟩) ?_ ?_;rotate_left
         ·intro w';go_simp
          with_reducible rfl
         rotate_left
         ·simp only[Act.put,za,zb,zc,i64_w,i32_w];rfl
         refine done_ (done_of HT_.out (by kernel_rfl)) ?_;have p195:0<=(x9_2:Int):=of_decide_eq_true (by first|(with_reducible assumption)|assumption);have q195:x9_2<(x1_1.length:Int):=of_decide_eq_true (by first|(with_reducible assumption)|assumption);obtain⟨ad195,e195,hx195_0,hx195_1,hx195_2,hx195_3⟩:=at_T70 (Kd.R_reads' HO_1.out).2.2 x9_2 p195 q195;obtain rfl:ad184=ad195:=(by injection e195)
         replace p195:=eq_true p195;replace q195:=eq_true q195
         try go_wp2_with (first|((with_reducible refine gate_builtin (b:= .append) (xs:= #[.tmp 67,.tmp 72]) rfl ?_);at_builtin;refine Kd.R_append k70 (w0:=w0) w0.heap.size rfl (.tmp 67) (.tmp 72) 44 70 (.agg #[(.int .i64 0),(.int .i64 0),(.int .i64 0),(.int .i64 0)]) 32 rfl Try.underlying44 info70 rfl (by decide) (by omega) u7 x7_2 (⟨(rd_T70 x1_1 x9_2).f0,(⟨(rd_T70 x1_1 x9_2).f1.f0,(rd_T70 x1_1 x9_2).f1.f1⟩:S68),(rd_T70 x1_1 x9_2).f2⟩:S70) [.int .i64 ((rd_T70 x1_1 x9_2).f0),.int .i64 ((rd_T70 x1_1 x9_2).f1.f0),.int .i64 ((rd_T70 x1_1 x9_2).f1.f1),.int .i64 ((rd_T70 x1_1 x9_2).f2)] (fun k_=>(P1_ k_∨w.heap.size<=k_)/\some k_≠(.slice (some ad184) x1_1.length co28:Value).ownBlock/\k_≠gb177) (fun _=>False) rfl rfl ?aP (fun _ hk=>hk.elim) ?aF ?aO ?aB ?aS ?aL ?_;(case aP=>exact k70_mkM _ _ _ (⟨(rd_T70 x1_1 x9_2).f0,(⟨(rd_T70 x1_1 x9_2).f1.f0,(rd_T70 x1_1 x9_2).f1.f1⟩:S68),(rd_T70 x1_1 x9_2).f2⟩:S70));(case aB=>exact(by repeat (first|(with_reducible first|exact HB.out|apply zh|apply zi|apply zj|refine zn ?_ GE177.out)|exact HB.out)));(case aF=>exact(fun k_ hk=>⟨(.inr (Nat.le_trans (by first|exact HK.out.1|exact(show Kept w _ (fun k_=>P1_ k_) from by repeat (first|(with_reducible first|exact HK.out|apply Kept.alloc|apply Kept.drewN|apply Kept.drew|refine Kept.setCell ?_ (.inr GW177.out) _)|exact HK.out)).1) hk)),Kd.fresh' (Kd.R_lt (by(with_reducible repeat (first|apply ze|apply zf|apply zg));exact HO_1.out)) k_ hk,Kd.freshB (g:=gb177) (o:= .cells #[.int .i64 x178000_2,.int .i64 x178001_2,.int .i64 x178002_2,.int .i64 x178003_2] 70 (0,0)) (by(with_reducible repeat (first|refine zk ?_ _|refine zl ?_|refine zm ?_ _));exact BK177.out) k_ hk⟩));(case aO=>exact(by(with_reducible repeat (first|apply ze|apply zf|apply zg));exact HO_7.out));(case aS=>exact(below_size (by repeat (first|(with_reducible first|exact HB.out|apply zh|apply zi|apply zj|refine zn ?_ GE177.out)|exact HB.out))));(case aL=>have:=LMc27.out;omega);intro v197 w30 ho hb hg hat;rw[←Ny196.out] at ho;have n0_:=zd (Kd.R_after (ok:=(fun k_=>(P1_ k_∨w.heap.size<=k_)/\k_≠gb177)) (by(with_reducible repeat (first|apply ze|apply zf|apply zg));exact zq HO_1.out (fun _ hk=>⟨⟨hk.1,hk.2.2⟩,hk.2.1⟩)) hg hat);have n1_:=zd (blk_grown (g:=gb177) (o:= .cells #[.int .i64 x178000_2,.int .i64 x178001_2,.int .i64 x178002_2,.int .i64 x178003_2] 70 (0,0)) (by(with_reducible repeat (first|refine zk ?_ _|refine zl ?_|refine zm ?_ _));exact BK177.out) hg (Kd.R_away HO_7.out (fun _ hk=>hk.2.2)));have n2_:=zd (hb);have n3_:=zd (Kept.of_grown (S:=(fun k_=>P1_ k_)) hg (by repeat (first|(with_reducible first|exact HK.out|apply Kept.alloc|apply Kept.drewN|apply Kept.drew|refine Kept.setCell ?_ (.inr GW177.out) _)|exact HK.out)) (fun k_ e_=>(HO_7.out.1 k_ e_).1));have n4_:=zd (ho);clear HO_1;clear BK177;clear HB;clear HK;clear HO_7;have HO_1:=n0_;have BK177:=n1_;have HB:=n2_;have HK:=n3_;have HO198:=n4_;clear n0_ n1_ n2_ n3_ n4_;clear ho hb hg hat))
         go_roundg k2
         case measure=>have:=HK1.out;have:=HK2.out;omega
         case rel=>exact⟨(y196),(x8_2),(wrap64 (x9_2+1)),(x178000_2),(x178001_2),(x178002_2),(x178003_2),(by first|rfl|(simp;done)|(simp[*];done)),(by first|rfl|(simp;done)|(simp[*];done)),H',⟨by have:=HK1.out;have:=HK2.out;omega⟩,⟨by(with_reducible repeat (first|apply ze|apply zf|apply zg));exact zq HO_1.out (fun _ hk=>⟨hk.1.1,⟨hk.2,hk.1.2⟩⟩)⟩,⟨by(with_reducible repeat (first|apply ze|apply zf|apply zg));exact HO198.out⟩,⟨by(with_reducible repeat (first|refine zk ?_ _|refine zl ?_|refine zm ?_ _));exact BK177.out⟩,⟨by repeat (first|(with_reducible first|exact HK.out|apply Kept.alloc|apply Kept.drewN|apply Kept.drew|refine Kept.setCell ?_ (.inr GW177.out) _)|exact HK.out)⟩,⟨by repeat (first|(with_reducible first|exact HB.out|apply zh|apply zi|apply zj|refine zn ?_ GE177.out)|exact HB.out)⟩⟩
        ·rw[if_neg c27] at H;exact absurd H (by simp)
      ·rw[if_neg c6] at H;exact absurd H (by simp)
     ·rw[if_neg c5] at H;have c5b0:decide (x9_2<(x1_1.length:Int))=false:=decide_eq_false c5;clear c5;by_cases c31:x8_2=true
      ·subst c31;have H1:(leatref11_merge.l0 k2 a0 x7_2 x178000_2 x178001_2 x178002_2 x178003_2)=some r:=by rw[if_pos rfl] at H;exact H
       clear H;have H:=H1;clear H1;have H' :=zd H;clear H;obtain⟨Ao32,co32,eo32⟩:=Kd.R_slice HO_1.out;subst eo32;go_wp2;go_roundg k2
       case measure=>have:=HK1.out;have:=HK2.out;omega
       case rel=>exact⟨(x7_2),(x178000_2),(x178001_2),(x178002_2),(x178003_2),H',⟨by have:=HK1.out;have:=HK2.out;omega⟩,⟨by(with_reducible repeat (first|apply ze|apply zf|apply zg));exact zq HO_7.out (fun _ hk=>⟨hk.1,hk.2.2⟩)⟩,⟨by(with_reducible repeat (first|refine zk ?_ _|refine zl ?_|refine zm ?_ _));exact BK177.out⟩,⟨by repeat (first|(with_reducible first|exact HK.out|apply Kept.alloc|apply Kept.drewN|apply Kept.drew|refine Kept.setCell ?_ (.inr GW177.out) _)|exact HK.out)⟩,⟨by repeat (first|(with_reducible first|exact HB.out|apply zh|apply zi|apply zj|refine zn ?_ GE177.out)|exact HB.out)⟩⟩
      ·replace c31:=Bool.eq_false_iff.mpr c31;subst c31;have H1:(if x7_2.length<4398046511104 then((leatref11_Sort.f k2 (x7_2++[(⟨x178000_2,(⟨x178001_2,x178002_2⟩:S68),x178003_2⟩:S70)])).bind fun t181=>(some t181)) else(none))=some r:=by rw[if_neg (show ¬(false=true) by decide)] at H;exact H
       clear H;have H:=H1;clear H1;by_cases c33:x7_2.length<4398046511104
       ·rw[if_pos c33] at H;have LMc33:=zd c33;clear c33;obtain⟨y178,hy178⟩: ∃y_:List (S70),y_=(x7_2++[(⟨x178000_2,(⟨x178001_2,x178002_2⟩:S68),x178003_2⟩:S70)]):=⟨_,rfl⟩
        replace H:((leatref11_Sort.f k2 y178).bind fun t181=>(some t181))=some r:=by first|(rw[hy178];with_reducible exact H)|(have H2_:=(Option.bind_some _ _).symm.trans H;rw[hy178];with_reducible exact H2_)|(have H2_:=(Option.bind_some _ _).symm.trans H;with_reducible exact H2_)|with_reducible exact H|(rw[hy178];exact H)|exact H
        have Ny178:=zd hy178;clear hy178;replace H:=Option.bind_eq_some_iff.mp H;obtain⟨t181,A340,H⟩:=H;replace H:(some t181)=some r:=H;have A34:=zd A340;clear A340;obtain rfl:=Option.some.inj H;obtain⟨Ao35,co35,eo35⟩:=Kd.R_slice HO_1.out;subst eo35;have hcz36_0:wr.cell? ⟨gb177,0,none⟩=some (.int .i64 x178000_2):=(zo BK177.out 0).trans rfl;have hcz36_1:wr.cell? ⟨gb177,1,none⟩=some (.int .i64 x178001_2):=(zo BK177.out 1).trans rfl;have hcz36_2:wr.cell? ⟨gb177,2,none⟩=some (.int .i64 x178002_2):=(zo BK177.out 2).trans rfl;have hcz36_3:wr.cell? ⟨gb177,3,none⟩=some (.int .i64 x178003_2):=(zo BK177.out 3).trans rfl;have hfz36_0:=blk_frozen BK177.out 0;have hfz36_1:=blk_frozen BK177.out 1;have hfz36_2:=blk_frozen BK177.out 2;have hfz36_3:=blk_frozen BK177.out 3;go_wp2_with (first|((with_reducible refine gate_builtin (b:= .append) (xs:= #[.tmp 77,.tmp 79]) rfl ?_);at_builtin;refine Kd.R_append k70 (w0:=w0) w0.heap.size rfl (.tmp 77) (.tmp 79) 44 70 (.agg #[(.int .i64 0),(.int .i64 0),(.int .i64 0),(.int .i64 0)]) 32 rfl Try.underlying44 info70 rfl (by decide) (by omega) u7 x7_2 (⟨x178000_2,(⟨x178001_2,x178002_2⟩:S68),x178003_2⟩:S70) [.int .i64 x178000_2,.int .i64 x178001_2,.int .i64 x178002_2,.int .i64 x178003_2] (fun k_=>(P1_ k_∨w.heap.size<=k_)/\some k_≠(.slice Ao35 x1_1.length co35:Value).ownBlock/\k_≠gb177) (fun _=>False) rfl rfl ?aP (fun _ hk=>hk.elim) ?aF ?aO ?aB ?aS ?aL ?_;(case aP=>exact k70_mkM _ _ _ (⟨x178000_2,(⟨x178001_2,x178002_2⟩:S68),x178003_2⟩:S70));(case aB=>exact(by repeat (first|(with_reducible first|exact HB.out|apply zh|apply zi|apply zj|refine zn ?_ GE177.out)|exact HB.out)));(case aF=>exact(fun k_ hk=>⟨(.inr (Nat.le_trans (by first|exact HK.out.1|exact(show Kept w _ (fun k_=>P1_ k_) from by repeat (first|(with_reducible first|exact HK.out|apply Kept.alloc|apply Kept.drewN|apply Kept.drew|refine Kept.setCell ?_ (.inr GW177.out) _)|exact HK.out)).1) hk)),Kd.fresh' (Kd.R_lt (by(with_reducible repeat (first|apply ze|apply zf|apply zg));exact HO_1.out)) k_ hk,Kd.freshB (g:=gb177) (o:= .cells #[.int .i64 x178000_2,.int .i64 x178001_2,.int .i64 x178002_2,.int .i64 x178003_2] 70 (0,0)) (by(with_reducible repeat (first|refine zk ?_ _|refine zl ?_|refine zm ?_ _));exact BK177.out) k_ hk⟩));(case aO=>exact(by(with_reducible repeat (first|apply ze|apply zf|apply zg));exact HO_7.out));(case aS=>exact(below_size (by repeat (first|(with_reducible first|exact HB.out|apply zh|apply zi|apply zj|refine zn ?_ GE177.out)|exact HB.out))));(case aL=>have:=LMc33.out;omega);intro v179 w37 ho hb hg hat;rw[←Ny178.out] at ho;have n0_:=zd (Kd.R_after (ok:=(fun k_=>(P1_ k_∨w.heap.size<=k_)/\k_≠gb177)) (by(with_reducible repeat (first|apply ze|apply zf|apply zg));exact zq HO_1.out (fun _ hk=>⟨⟨hk.1,hk.2.2⟩,hk.2.1⟩)) hg hat);have n1_:=zd (blk_grown (g:=gb177) (o:= .cells #[.int .i64 x178000_2,.int .i64 x178001_2,.int .i64 x178002_2,.int .i64 x178003_2] 70 (0,0)) (by(with_reducible repeat (first|refine zk ?_ _|refine zl ?_|refine zm ?_ _));exact BK177.out) hg (Kd.R_away HO_7.out (fun _ hk=>hk.2.2)));have n2_:=zd (hb);have n3_:=zd (Kept.of_grown (S:=(fun k_=>P1_ k_)) hg (by repeat (first|(with_reducible first|exact HK.out|apply Kept.alloc|apply Kept.drewN|apply Kept.drew|refine Kept.setCell ?_ (.inr GW177.out) _)|exact HK.out)) (fun k_ e_=>(HO_7.out.1 k_ e_).1));have n4_:=zd (ho);clear HO_1;clear BK177;clear HB;clear HK;clear HO_7;have HO_1:=n0_;have BK177:=n1_;have HB:=n2_;have HK:=n3_;have HO180:=n4_;clear n0_ n1_ n2_ n3_ n4_;clear ho hb hg hat;obtain⟨Ao38,co38,eo38⟩:=Kd.R_slice HO180.out;subst eo38)|((with_reducible refine gate_callee (f:=24) rfl ?_);refine goesL_ (some 81) rfl rfl Try.func24 (by kernel_rfl) rfl #[.slice Ao38 y178.length co38] rfl (by(try simp only[List.map_toArray,List.map_cons,List.map_nil]);first|done|rfl|(simp only[List.length_drop,List.length_take];rfl)) ?_;(with_reducible refine(leatref11_Sort.calls k2 _ _ y178 t181 _ ?side1 ?side2 A34.out).mono ?_);(case side1=>repeat (first|exact(Kd.R_reads' HO180.out).2.2|(with_reducible refine Kd.C_alloc ?_ _)|(with_reducible refine Kd.C_drewN ?_ _)|(with_reducible refine Kd.C_drew ?_)));(case side2=>exact(Kd.R_reads' HO180.out).2.1);rintro e w39 ⟨v182,rfl,ho0,hb⟩;refine⟨_,rfl,?_⟩;have n0_:=zd (Kd.R_elder' (by(with_reducible repeat (first|apply ze|apply zf|apply zg));exact HO_1.out) (Kd.R_base ho0) hb);have n1_:=zd (Kd.R_elder' (by(with_reducible repeat (first|apply ze|apply zf|apply zg));exact HO180.out) (Kd.R_base ho0) hb);have n2_:=zd (Kd.R_lower (Kd.R_newB (Kd.R_new' (Kd.R_new' (Kd.R_newM (M:=fun k_=>(P1_ k_∨w.heap.size<=k_)) ho0 (by first|exact HK.out.1|exact(show Kept w _ (fun k_=>P1_ k_) from by repeat (first|(with_reducible first|exact HK.out|apply Kept.alloc|apply Kept.drewN|apply Kept.drew|refine Kept.setCell ?_ (.inr GW177.out) _)|exact HK.out)).1) (fun k_ h_=> .inr h_)) (Kd.R_lt (by(with_reducible repeat (first|apply ze|apply zf|apply zg));exact HO_1.out))) (Kd.R_lt (by(with_reducible repeat (first|apply ze|apply zf|apply zg));exact HO180.out))) (g:=gb177) (o:= .cells #[.int .i64 x178000_2,.int .i64 x178001_2,.int .i64 x178002_2,.int .i64 x178003_2] 70 (0,0)) (by(with_reducible repeat (first|refine zk ?_ _|refine zl ?_|refine zm ?_ _));exact BK177.out)) (below_size (by repeat (first|(with_reducible first|exact HB.out|apply zh|apply zi|apply zj|refine zn ?_ GE177.out)|exact HB.out))));have n3_:=zd (zp (g:=gb177) (o:= .cells #[.int .i64 x178000_2,.int .i64 x178001_2,.int .i64 x178002_2,.int .i64 x178003_2] 70 (0,0)) (by(with_reducible repeat (first|refine zk ?_ _|refine zl ?_|refine zm ?_ _));exact BK177.out) hb);have n4_:=zd (Kept.below (S:=(fun k_=>P1_ k_)) (by repeat (first|(with_reducible first|exact HK.out|apply Kept.alloc|apply Kept.drewN|apply Kept.drew|refine Kept.setCell ?_ (.inr GW177.out) _)|exact HK.out)) hb);have n5_:=zd (zs (by repeat (first|(with_reducible first|exact HB.out|apply zh|apply zi|apply zj|refine zn ?_ GE177.out)|exact HB.out)) hb);clear HO_1;clear HO180;clear BK177;clear HK;clear HB;have HO_1:=n0_;have HO180:=n1_;have HO183:=n2_;have BK177:=n3_;have HK:=n4_;have HB:=n5_;clear n0_ n1_ n2_ n3_ n4_ n5_;(try clear hb);(try clear hb2);(try clear hk);(try clear hi);(try clear ho0)))
        go_ret;exact⟨_,by first|rfl|(simp[errW_none,errW_some]<;>rfl)|(simp[*,errW_none,errW_some]<;>rfl),by(with_reducible repeat (first|apply ze|apply zf|apply zg));exact zq HO183.out (fun _ hk=>hk.1.1.1.1),by repeat (first|(with_reducible first|exact HB.out|apply zh|apply zi|apply zj|refine zn ?_ GE177.out)|exact HB.out),by repeat (first|(with_reducible first|exact HK.out|apply Kept.alloc|apply Kept.drewN|apply Kept.drew|refine Kept.setCell ?_ (.inr GW177.out) _)|exact HK.out)⟩
       ·rw[if_neg c33] at H;exact absurd H (by simp)
end Go.Proofs.Ytjegeghigfmkoaa.X
namespace Go.Proofs.Ytjegeghigfmkoaa.X
open Go.RowKit Go.Proofs.YtjegeghigfmkoaaW.PrintWords Go.Proofs.YtjegeghigfmkoaaW.PrintLast Go.Proofs.YtjegeghigfmkoaaW.PrintMore
attribute [local go_sem] max2_int min2_int max_two min_two max_three min_three max_four min_four   -- for this text's walks alone
set_option linter.unusedVariables false
set_option linter.unusedSimpArgs false
def leatref11_Into.l0:Nat ->Int ->List (S70) ->List (S70) ->Int ->Int ->Int ->Int ->Int ->Int ->Int ->Option ((List (S70)))
 |0,_,_,_,_,_,_,_,_,_,_=>none
 |k+1,x1,x2,x12,x13,x202000,x202001,x205000,x205001,x205002,x205003=>if x13<(x2.length:Int) then(if 0<=x13 then(if ((rd_T70 x2 x13).f0)=x205000 then(if (((rd_T70 x2 x13).f1.f0)==x202000 && (((rd_T70 x2 x13).f1.f1)==x202001))=true then((leatref10_Merge.f k x1 x205003 ((rd_T70 x2 x13).f2)).bind fun t211=>(leatref11_Into.l0 k x1 x2 x12 (wrap64 (x13+1)) x202000 x202001 x205000 x205001 x205002 t211)) else(if x12.length<4398046511104 then(leatref11_Into.l0 k x1 x2 (x12++[(⟨(rd_T70 x2 x13).f0,(⟨(rd_T70 x2 x13).f1.f0,(rd_T70 x2 x13).f1.f1⟩:S68),(rd_T70 x2 x13).f2⟩:S70)]) (wrap64 (x13+1)) x202000 x202001 x205000 x205001 x205002 x205003) else(none))) else(if x12.length<4398046511104 then(leatref11_Into.l0 k x1 x2 (x12++[(⟨(rd_T70 x2 x13).f0,(⟨(rd_T70 x2 x13).f1.f0,(rd_T70 x2 x13).f1.f1⟩:S68),(rd_T70 x2 x13).f2⟩:S70)]) (wrap64 (x13+1)) x202000 x202001 x205000 x205001 x205002 x205003) else(none))) else(none)) else(if x12.length<4398046511104 then((leatref11_Sort.f k (x12++[(⟨x205000,(⟨x205001,x205002⟩:S68),x205003⟩:S70)])).bind fun t223=>(some t223)) else(none))
def leatref11_Into.f (k:Nat) (a0_0:Int) (a0_1:Int) (a0_2:Int) (a1:Int) (l2:List (S70)) (a3_0:Int) (a3_1:Int) (a3_2:Int) (a4_0:Int) (a4_1:Int):Option ((List (S70))):=(leatref10_Zero.f a1).bind fun t202=>((leatref10_Add.f k a1 t202 a3_2).bind fun t203=>(if a0_0=3 then((leatref11_merge.f k a1 l2 a3_0 a4_0 a4_1 t203).bind fun t205=>(some t205)) else(leatref11_Into.l0 k a1 l2 ([]:List (S70)) 0 a4_0 a4_1 a3_0 a4_0 a4_1 t203)))
end Go.Proofs.Ytjegeghigfmkoaa.X
namespace Go.Proofs.Ytjegeghigfmkoaa.X
open Go.RowKit Go.Proofs.YtjegeghigfmkoaaW.PrintWords Go.Proofs.YtjegeghigfmkoaaW.PrintLast Go.Proofs.YtjegeghigfmkoaaW.PrintMore
attribute [local go_sem] max2_int min2_int max_two min_two max_three min_three max_four min_four   -- for this text's walks alone
set_option linter.unusedVariables false
set_option linter.unusedSimpArgs false
mutual
def leatref11_Spans.j1:Nat ->List (S68) ->Option ((List (S68)))
 |0,_=>none
 |k+1,x6=>leatref11_Spans.l1 k x6 ([]:List (S68)) (wrap64 ((x6.length:Int)-1))
def leatref11_Spans.l1:Nat ->List (S68) ->List (S68) ->Int ->Option ((List (S68)))
 |0,_,_,_=>none
 |k+1,x6,x8,x9=>if x9≥0 then(if 0<=x9 then(if x9<(x6.length:Int) then(if x8.length<8796093022208 then(leatref11_Spans.l1 k x6 (x8++[(⟨(rd_T68 x6 x9).f0,(rd_T68 x6 x9).f1⟩:S68)]) (wrap64 (x9-1))) else(none)) else(none)) else(none)) else(some x8)
def leatref11_Spans.l0:Nat ->Int ->List (S68) ->Int ->Int ->Int ->Int ->Option ((List (S68)))
 |0,_,_,_,_,_,_=>none
 |k+1,x1,x6,x7,x228000,x228001,x228002=>if (wrap64 (x7+x228001))>x1 then(if (x6.length:Int)<200 then(if x6.length<8796093022208 then(leatref11_Spans.l0 k x1 (x6++[(⟨x7,wrap64 (x7+x228001)⟩:S68)]) (wrap64 (x7-x228002)) x228000 x228001 x228002) else(none)) else(leatref11_Spans.j1 k x6)) else(leatref11_Spans.j1 k x6)
end
def leatref11_Spans.f (k:Nat) (a0_0:Int) (a0_1:Int) (a0_2:Int) (a1:Int):Option ((List (S68))):=if a0_0=1 then((leatref11_floor.f a1 a0_1).bind fun t228=>(some (([(⟨t228,wrap64 (t228+a0_1)⟩:S68)]:List (S68))))) else(if a0_0=3 then(some (([(⟨a1,wrap64 (a1+a0_1)⟩:S68)]:List (S68)))) else((leatref11_floor.f a1 a0_2).bind fun t235=>(leatref11_Spans.l0 k a1 ([]:List (S68)) t235 a0_0 a0_1 a0_2)))
set_option maxHeartbeats 8000000 in
set_option maxRecDepth 100000 in
theorem leatref11_Spans.calls (k:Nat) (a0_0:Int) (a0_1:Int) (a0_2:Int) (a1:Int) (r:List (S68)) (w:World) (h:leatref11_Spans.f k a0_0 a0_1 a0_2 a1=some r):
  Calls Try.prog 40 #[.agg #[.int .i64 a0_0,.int .i64 a0_1,.int .i64 a0_2],.int .i64 a1] w fun e w'=> ∃v0_:Value,e= .returned (v0_)/\Kd.R k68 68 w' w.heap.size (fun _=>True) v0_ r/\Below w.heap.size w w' :=by
 have hu23:=Try.underlying23;have hu68:=Try.underlying68;have HB:=zd (Below.refl w.heap.size w);have H:(if a0_0=1 then((leatref11_floor.f a1 a0_1).bind fun t228=>(some (([(⟨t228,wrap64 (t228+a0_1)⟩:S68)]:List (S68))))) else(if a0_0=3 then(some (([(⟨a1,wrap64 (a1+a0_1)⟩:S68)]:List (S68)))) else((leatref11_floor.f a1 a0_2).bind fun t235=>(leatref11_Spans.l0 k a1 ([]:List (S68)) t235 a0_0 a0_1 a0_2))))=some r:=h;clear h;by_cases c3:a0_0=1
 ·rw[if_pos c3] at H;have c3b0:(a0_0==1)=true:=beq_iff_eq.mpr c3;have c3b1:(a0_0 !=1)=false:=bne_eq_false_iff_eq.mpr c3;clear c3;replace H:=Option.bind_eq_some_iff.mp H;obtain⟨t228,A40,H⟩:=H;replace H:(some (([(⟨t228,wrap64 (t228+a0_1)⟩:S68)]:List (S68))))=some r:=H;have A4:=zd A40;clear A40;obtain⟨y229,hy229⟩: ∃y_:List (S68),y_=(([(⟨t228,wrap64 (t228+a0_1)⟩:S68)]:List (S68))):=⟨_,rfl⟩
  replace H:(some y229)=some r:=by first|(rw[hy229];with_reducible exact H)|(have H2_:=(Option.bind_some _ _).symm.trans H;rw[hy229];with_reducible exact H2_)|(have H2_:=(Option.bind_some _ _).symm.trans H;with_reducible exact H2_)|with_reducible exact H|(rw[hy229];exact H)|exact H
  have Ny229:=zd hy229;clear hy229;obtain rfl:=Option.some.inj H;go_enter Try.func40,Try.ntmps40;go_wp2_with (first|((with_reducible refine gate_dst (N:=2) rfl ?_);(try(refine gate_guard (by rfl) ?_;dsimp only));refine box_event ?hg (N:=2) ?hd (cs:= #[.int .i64 a0_0,.int .i64 a0_1,.int .i64 a0_2]) (t:=23) ?hr ?_;(case hd=>rfl);(case hg=>rfl);(case hr=>first|(go_simp;done)|(go_simp;rfl));intro gb227 hg w5 hbox hb;have n0_:=zd (zs (by repeat (first|(with_reducible first|exact HB.out|apply zh|apply zi|apply zj)|exact HB.out)) hb);have n1_:=zd (hbox);have n2_:=zd ((by rw[hg];exact(below_size (by repeat (first|(with_reducible first|exact HB.out|apply zh|apply zi|apply zj)|exact HB.out))):w.heap.size<=gb227));have n3_:=zd ((by rw[hg];exact(below_size (by repeat (first|(with_reducible first|exact HB.out|apply zh|apply zi|apply zj)|exact HB.out))):w.heap.size<=gb227));clear HB;have HB:=n0_;have BK227:=n1_;have GW227:=n2_;have GE227:=n3_;clear n0_ n1_ n2_ n3_;clear hb hbox hg;have hcz6_0:w5.cell? ⟨gb227,0,none⟩=some (.int .i64 a0_0):=(zo BK227.out 0).trans rfl;have hcz6_1:w5.cell? ⟨gb227,1,none⟩=some (.int .i64 a0_1):=(zo BK227.out 1).trans rfl;have hcz6_2:w5.cell? ⟨gb227,2,none⟩=some (.int .i64 a0_2):=(zo BK227.out 2).trans rfl;have hfz6_0:=blk_frozen BK227.out 0;have hfz6_1:=blk_frozen BK227.out 1;have hfz6_2:=blk_frozen BK227.out 2)|((with_reducible refine gate_callee (f:=68) rfl ?_);refine goesL_ (some 17) rfl rfl Try.func68 (by kernel_rfl) rfl #[.int .i64 a1,.int .i64 a0_1] rfl (by(try simp only[List.map_toArray,List.map_cons,List.map_nil]);first|done|rfl|(simp only[List.length_drop,List.length_take];rfl)) ?_;(with_reducible refine(leatref11_floor.calls a1 a0_1 t228 _ A4.out).mono ?_);rintro e w' ⟨rfl,⟨nd,rfl⟩⟩;refine⟨_,rfl,?_⟩)|((with_reducible refine gate_dst (N:=24) rfl ?_);(try(refine gate_guard (by rfl) ?_;dsimp only));refine Kd.R_lit k68 _ 68 ?hg (N:=24) ?hd (xs:=([(⟨t228,wrap64 (t228+a0_1)⟩:S68)]:List (S68))) (inner:=[.int .i64 t228,.int .i64 (wrap64 (t228+a0_1))]) (ok:=fun _=>True) (okp:=fun _=>True) ?hr ?hp (fun _ hk=>hk) trivial (Below.refl _ _) (Nat.le_refl _) (by simp) ?_;(case hd=>rfl);(case hg=>rfl);(case hr=>first|(go_simp;done)|(go_simp;rfl));(case hp=>exact(Reps.c2 (show Kd.M k68 _ _ _ (⟨t228,wrap64 (t228+a0_1)⟩:S68) [.int .i64 t228,.int .i64 (wrap64 (t228+a0_1))] from(k68_mkM _ _ _ (⟨t228,wrap64 (t228+a0_1)⟩:S68))) (Reps.none _ _)));intro v230 w7 ho8 hb hg_ hnew_;clear hg_ hnew_;(first|rw[←Ny229.out] at ho8|(simp only[Int.reduceToNat] at ho8;rw[←Ny229.out] at ho8));have n0_:=zd (Kd.R_lower ho8 (below_size (by repeat (first|(with_reducible first|exact HB.out|apply zh|apply zi|apply zj|refine zn ?_ GE227.out)|exact HB.out))));have n1_:=zd (zp (g:=gb227) (o:= .cells #[.int .i64 a0_0,.int .i64 a0_1,.int .i64 a0_2] 23 (0,0)) (by(with_reducible repeat (first|refine zk ?_ _|refine zl ?_|refine zm ?_ _));exact BK227.out) hb);have n2_:=zd (zs (by repeat (first|(with_reducible first|exact HB.out|apply zh|apply zi|apply zj|refine zn ?_ GE227.out)|exact HB.out)) hb);clear BK227;clear HB;have HO231:=n0_;have BK227:=n1_;have HB:=n2_;clear n0_ n1_ n2_;clear hb ho8));go_ret;exact⟨_,by first|rfl|(simp[errW_none,errW_some]<;>rfl)|(simp[*,errW_none,errW_some]<;>rfl),by(with_reducible repeat (first|apply ze|apply zf|apply zg));exact HO231.out,by repeat (first|(with_reducible first|exact HB.out|apply zh|apply zi|apply zj|refine zn ?_ GE227.out)|exact HB.out)⟩
 ·rw [if_neg c3] at H;have c3b0:(a0_0==1)=false:=beq_eq_false_iff_ne.mpr c3;have c3b1:(a0_0 !=1)=true:=bne_iff_ne.mpr c3;by_cases c9:a0_0=3
  ·rw[if_pos c9] at H;have c9b0:(a0_0==3)=true:=beq_iff_eq.mpr c9;have c9b1:(a0_0 !=3)=false:=bne_eq_false_iff_eq.mpr c9;clear c9;obtain⟨y232,hy232⟩: ∃y_:List (S68),y_=(([(⟨a1,wrap64 (a1+a0_1)⟩:S68)]:List (S68))):=⟨_,rfl⟩
   replace H:(some y232)=some r:=by first|(rw[hy232];with_reducible exact H)|(have H2_:=(Option.bind_some _ _).symm.trans H;rw[hy232];with_reducible exact H2_)|(have H2_:=(Option.bind_some _ _).symm.trans H;with_reducible exact H2_)|with_reducible exact H|(rw[hy232];exact H)|exact H
   have Ny232:=zd hy232;clear hy232;obtain rfl:=Option.some.inj H;go_enter Try.func40,Try.ntmps40;go_wp2_with (first|((with_reducible refine gate_dst (N:=2) rfl ?_);(try(refine gate_guard (by rfl) ?_;dsimp only));refine box_event ?hg (N:=2) ?hd (cs:= #[.int .i64 a0_0,.int .i64 a0_1,.int .i64 a0_2]) (t:=23) ?hr ?_;(case hd=>rfl);(case hg=>rfl);(case hr=>first|(go_simp;done)|(go_simp;rfl));intro gb227 hg w10 hbox hb;have n0_:=zd (zs (by repeat (first|(with_reducible first|exact HB.out|apply zh|apply zi|apply zj)|exact HB.out)) hb);have n1_:=zd (hbox);have n2_:=zd ((by rw[hg];exact(below_size (by repeat (first|(with_reducible first|exact HB.out|apply zh|apply zi|apply zj)|exact HB.out))):w.heap.size<=gb227));have n3_:=zd ((by rw[hg];exact(below_size (by repeat (first|(with_reducible first|exact HB.out|apply zh|apply zi|apply zj)|exact HB.out))):w.heap.size<=gb227));clear HB;have HB:=n0_;have BK227:=n1_;have GW227:=n2_;have GE227:=n3_;clear n0_ n1_ n2_ n3_;clear hb hbox hg;have hcz11_0:w10.cell? ⟨gb227,0,none⟩=some (.int .i64 a0_0):=(zo BK227.out 0).trans rfl;have hcz11_1:w10.cell? ⟨gb227,1,none⟩=some (.int .i64 a0_1):=(zo BK227.out 1).trans rfl;have hcz11_2:w10.cell? ⟨gb227,2,none⟩=some (.int .i64 a0_2):=(zo BK227.out 2).trans rfl;have hfz11_0:=blk_frozen BK227.out 0;have hfz11_1:=blk_frozen BK227.out 1;have hfz11_2:=blk_frozen BK227.out 2)|((with_reducible refine gate_dst (N:=33) rfl ?_);(try(refine gate_guard (by rfl) ?_;dsimp only));refine Kd.R_lit k68 _ 68 ?hg (N:=33) ?hd (xs:=([(⟨a1,wrap64 (a1+a0_1)⟩:S68)]:List (S68))) (inner:=[.int .i64 a1,.int .i64 (wrap64 (a1+a0_1))]) (ok:=fun _=>True) (okp:=fun _=>True) ?hr ?hp (fun _ hk=>hk) trivial (Below.refl _ _) (Nat.le_refl _) (by simp) ?_;(case hd=>rfl);(case hg=>rfl);(case hr=>first|(go_simp;done)|(go_simp;rfl));(case hp=>exact(Reps.c2 (show Kd.M k68 _ _ _ (⟨a1,wrap64 (a1+a0_1)⟩:S68) [.int .i64 a1,.int .i64 (wrap64 (a1+a0_1))] from(k68_mkM _ _ _ (⟨a1,wrap64 (a1+a0_1)⟩:S68))) (Reps.none _ _)));intro v233 w12 ho13 hb hg_ hnew_;clear hg_ hnew_;(first|rw[←Ny232.out] at ho13|(simp only[Int.reduceToNat] at ho13;rw[←Ny232.out] at ho13));have n0_:=zd (Kd.R_lower ho13 (below_size (by repeat (first|(with_reducible first|exact HB.out|apply zh|apply zi|apply zj|refine zn ?_ GE227.out)|exact HB.out))));have n1_:=zd (zp (g:=gb227) (o:= .cells #[.int .i64 a0_0,.int .i64 a0_1,.int .i64 a0_2] 23 (0,0)) (by(with_reducible repeat (first|refine zk ?_ _|refine zl ?_|refine zm ?_ _));exact BK227.out) hb);have n2_:=zd (zs (by repeat (first|(with_reducible first|exact HB.out|apply zh|apply zi|apply zj|refine zn ?_ GE227.out)|exact HB.out)) hb);clear BK227;clear HB;have HO234:=n0_;have BK227:=n1_;have HB:=n2_;clear n0_ n1_ n2_;clear hb ho13));go_ret;exact⟨_,by first|rfl|(simp[errW_none,errW_some]<;>rfl)|(simp[*,errW_none,errW_some]<;>rfl),by(with_reducible repeat (first|apply ze|apply zf|apply zg));exact HO234.out,by repeat (first|(with_reducible first|exact HB.out|apply zh|apply zi|apply zj|refine zn ?_ GE227.out)|exact HB.out)⟩
  ·rw [if_neg c9] at H;have c9b0:(a0_0==3)=false:=beq_eq_false_iff_ne.mpr c9;have c9b1:(a0_0 !=3)=true:=bne_iff_ne.mpr c9;replace H:=Option.bind_eq_some_iff.mp H;obtain⟨t235,A140,H⟩:=H;replace H:(leatref11_Spans.l0 k a1 ([]:List (S68)) t235 a0_0 a0_1 a0_2)=some r:=H;have A14:=zd A140;clear A140;have HC15:=zd H;clear H;go_enter Try.func40,Try.ntmps40;go_upto_block 1 with (first|((with_reducible refine gate_dst (N:=2) rfl ?_);(try(refine gate_guard (by rfl) ?_;dsimp only));refine box_event ?hg (N:=2) ?hd (cs:= #[.int .i64 a0_0,.int .i64 a0_1,.int .i64 a0_2]) (t:=23) ?hr ?_;(case hd=>rfl);(case hg=>rfl);(case hr=>first|(go_simp;done)|(go_simp;rfl));intro gb227 hg w16 hbox hb;have n0_:=zd (zs (by repeat (first|(with_reducible first|exact HB.out|apply zh|apply zi|apply zj)|exact HB.out)) hb);have n1_:=zd (hbox);have n2_:=zd ((by rw[hg];exact(below_size (by repeat (first|(with_reducible first|exact HB.out|apply zh|apply zi|apply zj)|exact HB.out))):w.heap.size<=gb227));have n3_:=zd ((by rw[hg];exact(below_size (by repeat (first|(with_reducible first|exact HB.out|apply zh|apply zi|apply zj)|exact HB.out))):w.heap.size<=gb227));clear HB;have HB:=n0_;have BK227:=n1_;have GW227:=n2_;have GE227:=n3_;clear n0_ n1_ n2_ n3_;clear hb hbox hg;have hcz17_0:w16.cell? ⟨gb227,0,none⟩=some (.int .i64 a0_0):=(zo BK227.out 0).trans rfl;have hcz17_1:w16.cell? ⟨gb227,1,none⟩=some (.int .i64 a0_1):=(zo BK227.out 1).trans rfl;have hcz17_2:w16.cell? ⟨gb227,2,none⟩=some (.int .i64 a0_2):=(zo BK227.out 2).trans rfl;have hfz17_0:=blk_frozen BK227.out 0;have hfz17_1:=blk_frozen BK227.out 1;have hfz17_2:=blk_frozen BK227.out 2)|((with_reducible refine gate_callee (f:=68) rfl ?_);refine goesL_ (some 37) rfl rfl Try.func68 (by kernel_rfl) rfl #[.int .i64 a1,.int .i64 a0_2] rfl (by(try simp only[List.map_toArray,List.map_cons,List.map_nil]);first|done|rfl|(simp only[List.length_drop,List.length_take];rfl)) ?_;(with_reducible refine(leatref11_floor.calls a1 a0_2 t235 _ A14.out).mono ?_);rintro e w' ⟨rfl,⟨nd,rfl⟩⟩;refine⟨_,rfl,?_⟩))
   (try simp only[Act.put,za,zb,zc])
   go_cut [6] (fun v6 wc=> ∃(kq:Nat) (x6_14:List (S68)),Aside0 (leatref11_Spans.j1 kq x6_14=some r)/\Aside0 (kq<=k)/\Aside0 (Kd.R k68 68 wc w.heap.size (fun _=>True) v6 x6_14)/\Aside0 (wc.heap[gb227]? =some (.cells #[.int .i64 a0_0,.int .i64 a0_1,.int .i64 a0_2] 23 (0,0)))/\Aside0 (Below w.heap.size w wc))
   case first=>
    have H:=HC15.out;clear HC15;have H' :=zd H;clear H;go_wp2;go_loopg [6,7] k (fun kq v6 v7 w'=> ∃(x6_1:List (S68)) (x7_1:Int),v7= .int .i64 x7_1/\Aside0 (leatref11_Spans.l0 kq a1 x6_1 x7_1 a0_0 a0_1 a0_2=some r)/\Aside0 (kq<=k)/\Aside0 (Kd.R k68 68 w' w.heap.size (fun _=>True) v6 x6_1)/\Aside0 (w'.heap[gb227]? =some (.cells #[.int .i64 a0_0,.int .i64 a0_1,.int .i64 a0_2] 23 (0,0)))/\Aside0 (Below w.heap.size w w'))
    case atStart=>exact⟨(([]:List (S68))),(t235),(by first|rfl|(simp;done)|(simp[*];done)),H',⟨Nat.le_refl _⟩,⟨by first|exact Kd.R_nil _ _ _ _ _|exact Kd.N_nil _ _ _ _ _|exact Kd.V_nil _ _ _ _ _|exact Kd.Q_nil _ _ _ _ _|exact Kd.S_nil _ _ _ _ _⟩,⟨by(with_reducible repeat (first|refine zk ?_ _|refine zl ?_|refine zm ?_ _));exact BK227.out⟩,⟨by repeat (first|(with_reducible first|exact HB.out|apply zh|apply zi|apply zj|refine zn ?_ GE227.out)|exact HB.out)⟩⟩
    case round=>
     clear H'
     try clear c2;try clear p2;try clear c3;try clear c3b0;try clear c3b1;try clear c4;try clear c6;try clear p6;try clear c9;try clear c9b0;try clear c9b1;try clear hcz11_0;try clear hcz11_1;try clear hcz11_2;try clear hcz17_0;try clear hcz17_1;try clear hcz17_2;try clear hcz6_0;try clear hcz6_1;try clear hcz6_2;try clear hfz11_0;try clear hfz11_1;try clear hfz11_2;try clear hfz17_0;try clear hfz17_1;try clear hfz17_2;try clear hfz6_0;try clear hfz6_1;try clear hfz6_2
     obtain⟨x6_1,x7_1,rfl,HA,HK1,HO_6,BK227,HB⟩:=hrel;cases gk with
     |zero=>exact absurd HA.out (by simp[leatref11_Spans.l0])
     | succ k1=>
      have H:=HA.out;clear HA;simp only[leatref11_Spans.l0] at H;by_cases c18:(wrap64 (x7_1+a0_1))>a1
      ·rw[if_pos c18] at H;have c18b0:decide (a1<(wrap64 (x7_1+a0_1)))=true:=decide_eq_true c18;clear c18
       (first|rw[c18b0]|(simp only[i64_w,i32_w];rw[c18b0])|skip)
       by_cases c19:(x6_1.length:Int)<200
       ·rw[if_pos c19] at H;have c19b0:decide ((x6_1.length:Int)<200)=true:=decide_eq_true c19;have c19b1:decide (x6_1.length<200)=true:=decide_eq_true (by omega);clear c19;by_cases c20:x6_1.length<8796093022208
        ·rw[if_pos c20] at H;have LMc20:=zd c20;clear c20;obtain⟨y236,hy236⟩: ∃y_:List (S68),y_=(x6_1++[(⟨x7_1,wrap64 (x7_1+a0_1)⟩:S68)]):=⟨_,rfl⟩
         replace H:(leatref11_Spans.l0 k1 a1 y236 (wrap64 (x7_1-a0_2)) a0_0 a0_1 a0_2)=some r:=by first|(rw[hy236];with_reducible exact H)|(have H2_:=(Option.bind_some _ _).symm.trans H;rw[hy236];with_reducible exact H2_)|(have H2_:=(Option.bind_some _ _).symm.trans H;with_reducible exact H2_)|with_reducible exact H|(rw[hy236];exact H)|exact H
         have Ny236:=zd hy236;clear hy236;have H' :=zd H;clear H;have hcz21_0:wr.cell? ⟨gb227,0,none⟩=some (.int .i64 a0_0):=(zo BK227.out 0).trans rfl;have hcz21_1:wr.cell? ⟨gb227,1,none⟩=some (.int .i64 a0_1):=(zo BK227.out 1).trans rfl;have hcz21_2:wr.cell? ⟨gb227,2,none⟩=some (.int .i64 a0_2):=(zo BK227.out 2).trans rfl;have hfz21_0:=blk_frozen BK227.out 0;have hfz21_1:=blk_frozen BK227.out 1;have hfz21_2:=blk_frozen BK227.out 2;obtain⟨Ao22,co22,eo22⟩:=Kd.R_slice HO_6.out;subst eo22;go_wp2_with (first|((with_reducible refine gate_builtin (b:= .append) (xs:= #[.tmp 53,.tmp 60]) rfl ?_);(try(refine gate_guard (by rfl) ?_;dsimp only));at_builtin;refine Kd.R_append k68 (w0:=w) w.heap.size rfl (.tmp 53) (.tmp 60) 88 68 (.agg #[(.int .i64 0),(.int .i64 0)]) 16 rfl Try.underlying88 info68 rfl (by decide) (by omega) (.slice Ao22 x6_1.length co22) x6_1 (⟨x7_1,wrap64 (x7_1+a0_1)⟩:S68) [.int .i64 x7_1,.int .i64 (wrap64 (x7_1+a0_1))] (fun _=>True) (fun _=>False) rfl rfl ?aP (fun _ hk=>hk.elim) ?aF ?aO ?aB ?aS ?aL ?_;(case aP=>exact k68_mkM _ _ _ (⟨x7_1,wrap64 (x7_1+a0_1)⟩:S68));(case aB=>exact(by repeat (first|(with_reducible first|exact HB.out|apply zh|apply zi|apply zj|refine zn ?_ GE227.out)|exact HB.out)));(case aF=>exact(fun _ _=>trivial));(case aO=>exact(by(with_reducible repeat (first|apply ze|apply zf|apply zg));exact HO_6.out));(case aS=>exact(below_size (by repeat (first|(with_reducible first|exact HB.out|apply zh|apply zi|apply zj|refine zn ?_ GE227.out)|exact HB.out))));(case aL=>have:=LMc20.out;omega);intro v237 w23 ho hb hg hat;rw[←Ny236.out] at ho;have n0_:=zd (blk_grown (g:=gb227) (o:= .cells #[.int .i64 a0_0,.int .i64 a0_1,.int .i64 a0_2] 23 (0,0)) (by(with_reducible repeat (first|refine zk ?_ _|refine zl ?_|refine zm ?_ _));exact BK227.out) hg (Kd.R_ne HO_6.out BK227.out (by decide)));have n1_:=zd (hb);have n2_:=zd (ho);clear BK227;clear HB;clear HO_6;have BK227:=n0_;have HB:=n1_;have HO238:=n2_;clear n0_ n1_ n2_;clear ho hb hg hat;have hcz24_0:w23.cell? ⟨gb227,0,none⟩=some (.int .i64 a0_0):=(zo BK227.out 0).trans rfl;have hcz24_1:w23.cell? ⟨gb227,1,none⟩=some (.int .i64 a0_1):=(zo BK227.out 1).trans rfl;have hcz24_2:w23.cell? ⟨gb227,2,none⟩=some (.int .i64 a0_2):=(zo BK227.out 2).trans rfl;have hfz24_0:=blk_frozen BK227.out 0;have hfz24_1:=blk_frozen BK227.out 1;have hfz24_2:=blk_frozen BK227.out 2));go_roundg k1
         case measure=>have:=HK1.out;omega
         case rel=>exact⟨(y236),(wrap64 (x7_1-a0_2)),(by first|rfl|(simp;done)|(simp[*];done)),H',⟨by have:=HK1.out;omega⟩,⟨by(with_reducible repeat (first|apply ze|apply zf|apply zg));exact HO238.out⟩,⟨by(with_reducible repeat (first|refine zk ?_ _|refine zl ?_|refine zm ?_ _));exact BK227.out⟩,⟨by repeat (first|(with_reducible first|exact HB.out|apply zh|apply zi|apply zj|refine zn ?_ GE227.out)|exact HB.out)⟩⟩
        ·rw[if_neg c20] at H;exact absurd H (by simp)
       ·rw[if_neg c19] at H;have c19b0:decide ((x6_1.length:Int)<200)=false:=decide_eq_false c19;have c19b1:decide (x6_1.length<200)=false:=decide_eq_false (by omega);clear c19;have H' :=zd H;clear H;have hcz25_0:wr.cell? ⟨gb227,0,none⟩=some (.int .i64 a0_0):=(zo BK227.out 0).trans rfl;have hcz25_1:wr.cell? ⟨gb227,1,none⟩=some (.int .i64 a0_1):=(zo BK227.out 1).trans rfl;have hcz25_2:wr.cell? ⟨gb227,2,none⟩=some (.int .i64 a0_2):=(zo BK227.out 2).trans rfl;have hfz25_0:=blk_frozen BK227.out 0;have hfz25_1:=blk_frozen BK227.out 1;have hfz25_2:=blk_frozen BK227.out 2;obtain⟨Ao26,co26,eo26⟩:=Kd.R_slice HO_6.out;subst eo26;go_wp2;go_meet
        case rel=>exact⟨_,(x6_1),H',⟨by have:=HK1.out;first|omega|exact Nat.le_refl _⟩,⟨by(with_reducible repeat (first|apply ze|apply zf|apply zg));exact HO_6.out⟩,⟨by(with_reducible repeat (first|refine zk ?_ _|refine zl ?_|refine zm ?_ _));exact BK227.out⟩,⟨by repeat (first|(with_reducible first|exact HB.out|apply zh|apply zi|apply zj|refine zn ?_ GE227.out)|exact HB.out)⟩⟩
      ·rw[if_neg c18] at H;have c18b0:decide (a1<(wrap64 (x7_1+a0_1)))=false:=decide_eq_false c18;clear c18
       (first|rw[c18b0]|(simp only[i64_w,i32_w];rw[c18b0])|skip)
       have H' :=zd H;clear H;have hcz27_0:wr.cell? ⟨gb227,0,none⟩=some (.int .i64 a0_0):=(zo BK227.out 0).trans rfl;have hcz27_1:wr.cell? ⟨gb227,1,none⟩=some (.int .i64 a0_1):=(zo BK227.out 1).trans rfl;have hcz27_2:wr.cell? ⟨gb227,2,none⟩=some (.int .i64 a0_2):=(zo BK227.out 2).trans rfl;have hfz27_0:=blk_frozen BK227.out 0;have hfz27_1:=blk_frozen BK227.out 1;have hfz27_2:=blk_frozen BK227.out 2;go_wp2;go_meet
       case rel=>exact⟨_,(x6_1),H',⟨by have:=HK1.out;first|omega|exact Nat.le_refl _⟩,⟨by(with_reducible repeat (first|apply ze|apply zf|apply zg));exact HO_6.out⟩,⟨by(with_reducible repeat (first|refine zk ?_ _|refine zl ?_|refine zm ?_ _));exact BK227.out⟩,⟨by repeat (first|(with_reducible first|exact HB.out|apply zh|apply zi|apply zj|refine zn ?_ GE227.out)|exact HB.out)⟩⟩
   case rest=>
    clear HC15
    try clear c1;try clear c2;try clear p2;try clear c3;try clear c3b0;try clear c3b1;try clear c4;try clear c6;try clear p6;try clear c9;try clear c9b0;try clear c9b1;try clear c18;try clear c18b0;try clear c19;try clear c19b0;try clear c19b1;try clear c20;try clear hcz11_0;try clear hcz11_1;try clear hcz11_2;try clear hcz17_0;try clear hcz17_1;try clear hcz17_2;try clear hcz21_0;try clear hcz21_1;try clear hcz21_2;try clear hcz24_0;try clear hcz24_1;try clear hcz24_2;try clear hcz25_0;try clear hcz25_1;try clear hcz25_2;try clear hcz27_0;try clear hcz27_1;try clear hcz27_2;try clear hcz6_0;try clear hcz6_1;try clear hcz6_2;try clear hfz11_0;try clear hfz11_1;try clear hfz11_2;try clear hfz17_0;try clear hfz17_1;try clear hfz17_2;try clear hfz21_0;try clear hfz21_1;try clear hfz21_2;try clear hfz24_0;try clear hfz24_1;try clear hfz24_2;try clear hfz25_0;try clear hfz25_1;try clear hfz25_2;try clear hfz27_0;try clear hfz27_1;try clear hfz27_2;try clear hfz6_0;try clear hfz6_1;try clear hfz6_2;try clear p2;try clear p6
    obtain⟨kq,x6_14,HA,HJ14,HO_6,BK227,HB⟩:=hcut;cases kq with
    |zero=>exact absurd HA.out (by simp[leatref11_Spans.j1])
    | succ kj14=>
     have H:=HA.out;clear HA;simp only[leatref11_Spans.j1] at H;have H' :=zd H;clear H;obtain⟨Ao28,co28,eo28⟩:=Kd.R_slice HO_6.out;subst eo28;go_wp2;go_loopg [8,9] kj14 (fun kq v8 v9 w'=> ∃(x8_2:List (S68)) (x9_2:Int),v9= .int .i64 x9_2/\Aside0 (leatref11_Spans.l1 kq x6_14 x8_2 x9_2=some r)/\Aside0 (kq<=kj14)/\Aside0 (Kd.R k68 68 w' w.heap.size (fun k_=>some k_≠(v8:Value).ownBlock) (.slice Ao28 x6_14.length co28) x6_14)/\Aside0 (Kd.R k68 68 w' w.heap.size (fun k_=>some k_≠((.slice Ao28 x6_14.length co28):Value).ownBlock) v8 x8_2)/\Aside0 (w'.heap[gb227]? =some (.cells #[.int .i64 a0_0,.int .i64 a0_1,.int .i64 a0_2] 23 (0,0)))/\Aside0 (Below w.heap.size w w'))
     case atStart=>exact⟨(([]:List (S68))),(wrap64 ((x6_14.length:Int)-1)),(by first|rfl|(simp;done)|(simp[*];done)),H',⟨Nat.le_refl _⟩,⟨by(with_reducible repeat (first|apply ze|apply zf|apply zg));exact zq HO_6.out (fun _ hk=>(by simp[Value.ownBlock]))⟩,⟨by first|exact Kd.R_nil _ _ _ _ _|exact Kd.N_nil _ _ _ _ _|exact Kd.V_nil _ _ _ _ _|exact Kd.Q_nil _ _ _ _ _|exact Kd.S_nil _ _ _ _ _⟩,⟨by(with_reducible repeat (first|refine zk ?_ _|refine zl ?_|refine zm ?_ _));exact BK227.out⟩,⟨by repeat (first|(with_reducible first|exact HB.out|apply zh|apply zi|apply zj|refine zn ?_ GE227.out)|exact HB.out)⟩⟩
     case round=>
      clear H'
      try clear c1;try clear c2;try clear p2;try clear c3;try clear c3b0;try clear c3b1;try clear c4;try clear c6;try clear p6;try clear c9;try clear c9b0;try clear c9b1;try clear c18;try clear c18b0;try clear c19;try clear c19b0;try clear c19b1;try clear c20;try clear hcz11_0;try clear hcz11_1;try clear hcz11_2;try clear hcz17_0;try clear hcz17_1;try clear hcz17_2;try clear hcz21_0;try clear hcz21_1;try clear hcz21_2;try clear hcz24_0;try clear hcz24_1;try clear hcz24_2;try clear hcz25_0;try clear hcz25_1;try clear hcz25_2;try clear hcz27_0;try clear hcz27_1;try clear hcz27_2;try clear hcz6_0;try clear hcz6_1;try clear hcz6_2;try clear hfz11_0;try clear hfz11_1;try clear hfz11_2;try clear hfz17_0;try clear hfz17_1;try clear hfz17_2;try clear hfz21_0;try clear hfz21_1;try clear hfz21_2;try clear hfz24_0;try clear hfz24_1;try clear hfz24_2;try clear hfz25_0;try clear hfz25_1;try clear hfz25_2;try clear hfz27_0;try clear hfz27_1;try clear hfz27_2;try clear hfz6_0;try clear hfz6_1;try clear hfz6_2;try clear p2;try clear p6
      obtain⟨x8_2,x9_2,rfl,HA,HK2,HO_6,HO_8,BK227,HB⟩:=hrel;cases gk with
      |zero=>exact absurd HA.out (by simp[leatref11_Spans.l1])
      | succ k2=>
       have H:=HA.out;clear HA;simp only[leatref11_Spans.l1] at H;by_cases c29:x9_2≥0
       ·rw [if_pos c29] at H;have c29b0:decide (0<=x9_2)=true:=decide_eq_true c29;clear c29;by_cases c30:0<=x9_2
        ·rw[if_pos c30] at H;have c30b0:decide (0<=x9_2)=true:=decide_eq_true c30;clear c30;by_cases c31:x9_2<(x6_14.length:Int)
         ·rw[if_pos c31] at H;have c31b0:decide (x9_2<(x6_14.length:Int))=true:=decide_eq_true c31;clear c31;by_cases c32:x8_2.length<8796093022208
          ·rw[if_pos c32] at H;have LMc32:=zd c32;clear c32;obtain⟨y240,hy240⟩: ∃y_:List (S68),y_=(x8_2++[(⟨(rd_T68 x6_14 x9_2).f0,(rd_T68 x6_14 x9_2).f1⟩:S68)]):=⟨_,rfl⟩
           replace H:(leatref11_Spans.l1 k2 x6_14 y240 (wrap64 (x9_2-1)))=some r:=by first|(rw[hy240];with_reducible exact H)|(have H2_:=(Option.bind_some _ _).symm.trans H;rw[hy240];with_reducible exact H2_)|(have H2_:=(Option.bind_some _ _).symm.trans H;with_reducible exact H2_)|with_reducible exact H|(rw[hy240];exact H)|exact H
           have Ny240:=zd hy240;clear hy240;have H' :=zd H;clear H;have p239:0<=(x9_2:Int):=of_decide_eq_true (by first|(with_reducible assumption)|assumption);have q239:x9_2<(x6_14.length:Int):=of_decide_eq_true (by first|(with_reducible assumption)|assumption);obtain⟨ad239,e239,hx239_0,hx239_1⟩:=at_T68 (Kd.R_reads' HO_6.out).2.2 x9_2 p239 q239;cases e239;replace p239:=eq_true p239;replace q239:=eq_true q239;go_wp2_with (first|((with_reducible refine gate_builtin (b:= .append) (xs:= #[.tmp 69,.tmp 74]) rfl ?_);(try(refine gate_guard (by rfl) ?_;dsimp only));at_builtin;refine Kd.R_append k68 (w0:=w) w.heap.size rfl (.tmp 69) (.tmp 74) 88 68 (.agg #[(.int .i64 0),(.int .i64 0)]) 16 rfl Try.underlying88 info68 rfl (by decide) (by omega) u8 x8_2 (⟨(rd_T68 x6_14 x9_2).f0,(rd_T68 x6_14 x9_2).f1⟩:S68) [.int .i64 ((rd_T68 x6_14 x9_2).f0),.int .i64 ((rd_T68 x6_14 x9_2).f1)] (fun k_=>some k_≠(.slice (some ad239) x6_14.length co28:Value).ownBlock) (fun _=>False) rfl rfl ?aP (fun _ hk=>hk.elim) ?aF ?aO ?aB ?aS ?aL ?_;(case aP=>exact k68_mkM _ _ _ (⟨(rd_T68 x6_14 x9_2).f0,(rd_T68 x6_14 x9_2).f1⟩:S68));(case aB=>exact(by repeat (first|(with_reducible first|exact HB.out|apply zh|apply zi|apply zj|refine zn ?_ GE227.out)|exact HB.out)));(case aF=>exact(fun k_ hk=>Kd.fresh' (Kd.R_lt (by(with_reducible repeat (first|apply ze|apply zf|apply zg));exact HO_6.out)) k_ hk));(case aO=>exact(by(with_reducible repeat (first|apply ze|apply zf|apply zg));exact HO_8.out));(case aS=>exact(below_size (by repeat (first|(with_reducible first|exact HB.out|apply zh|apply zi|apply zj|refine zn ?_ GE227.out)|exact HB.out))));(case aL=>have:=LMc32.out;omega);intro v241 w33 ho hb hg hat;rw[←Ny240.out] at ho;have n0_:=zd (Kd.R_after (ok:=(fun _=>True)) (by(with_reducible repeat (first|apply ze|apply zf|apply zg));exact zq HO_6.out (fun _ hk=>⟨trivial,hk⟩)) hg hat);have n1_:=zd (blk_grown (g:=gb227) (o:= .cells #[.int .i64 a0_0,.int .i64 a0_1,.int .i64 a0_2] 23 (0,0)) (by(with_reducible repeat (first|refine zk ?_ _|refine zl ?_|refine zm ?_ _));exact BK227.out) hg (Kd.R_ne HO_8.out BK227.out (by decide)));have n2_:=zd (hb);have n3_:=zd (ho);clear HO_6;clear BK227;clear HB;clear HO_8;have HO_6:=n0_;have BK227:=n1_;have HB:=n2_;have HO242:=n3_;clear n0_ n1_ n2_ n3_;clear ho hb hg hat));go_roundg k2
           case measure=>have:=HJ14.out;have:=HK2.out;omega
           case rel=>exact⟨(y240),(wrap64 (x9_2-1)),(by first|rfl|(simp;done)|(simp[*];done)),H',⟨by have:=HJ14.out;have:=HK2.out;omega⟩,⟨by(with_reducible repeat (first|apply ze|apply zf|apply zg));exact zq HO_6.out (fun _ hk=>hk.2)⟩,⟨by(with_reducible repeat (first|apply ze|apply zf|apply zg));exact HO242.out⟩,⟨by(with_reducible repeat (first|refine zk ?_ _|refine zl ?_|refine zm ?_ _));exact BK227.out⟩,⟨by repeat (first|(with_reducible first|exact HB.out|apply zh|apply zi|apply zj|refine zn ?_ GE227.out)|exact HB.out)⟩⟩
          ·rw[if_neg c32] at H;exact absurd H (by simp)
         ·rw[if_neg c31] at H;exact absurd H (by simp)
        ·rw[if_neg c30] at H;exact absurd H (by simp)
       ·rw[if_neg c29] at H;have c29b0:decide (0<=x9_2)=false:=decide_eq_false c29;clear c29;obtain rfl:=Option.some.inj H;go_wp2;go_ret;exact⟨_,by first|rfl|(simp[errW_none,errW_some]<;>rfl)|(simp[*,errW_none,errW_some]<;>rfl),by(with_reducible repeat (first|apply ze|apply zf|apply zg));exact zq HO_8.out (fun _ hk=>trivial),by repeat (first|(with_reducible first|exact HB.out|apply zh|apply zi|apply zj|refine zn ?_ GE227.out)|exact HB.out)⟩
end Go.Proofs.Ytjegeghigfmkoaa.X
namespace Go.Proofs.Ytjegeghigfmkoaa.X
open Go.RowKit Go.Proofs.YtjegeghigfmkoaaW.PrintWords Go.Proofs.YtjegeghigfmkoaaW.PrintLast Go.Proofs.YtjegeghigfmkoaaW.PrintMore
attribute [local go_sem] max2_int min2_int max_two min_two max_three min_three max_four min_four   -- for this text's walks alone
set_option linter.unusedVariables false
set_option linter.unusedSimpArgs false
def leatref11_Fire.l0:Nat ->List (S70) ->Int ->List (S39) ->List (S70) ->Int ->Option ((List (S39))×(List (S70)))
 |0,_,_,_,_,_=>none
 |k+1,x0,x1,x6,x7,x8=>if x8<(x0.length:Int) then(if 0<=x8 then(if (wrap64 (((rd_T70 x0 x8).f1.f1)-1))<=x1 then(if x6.length<5864062014805 then(leatref11_Fire.l0 k x0 x1 (x6++[(⟨(rd_T70 x0 x8).f0,wrap64 (((rd_T70 x0 x8).f1.f1)-1),(rd_T70 x0 x8).f2⟩:S39)]) x7 (wrap64 (x8+1))) else(none)) else(if x7.length<4398046511104 then(leatref11_Fire.l0 k x0 x1 x6 (x7++[(⟨(rd_T70 x0 x8).f0,(⟨(rd_T70 x0 x8).f1.f0,(rd_T70 x0 x8).f1.f1⟩:S68),(rd_T70 x0 x8).f2⟩:S70)]) (wrap64 (x8+1))) else(none))) else(none)) else(some (x6,x7))
def leatref11_Fire.f (k:Nat) (l0:List (S70)) (a1:Int):Option ((List (S39))×(List (S70))):=(leatref11_Sort.f k l0).bind fun t244=>(leatref11_Fire.l0 k t244 a1 ([]:List (S39)) ([]:List (S70)) 0)
def leatref11_Fire.T8:Bool×List (List Nat×List Nat):=(true,[([],[]),([],[]),([],[]),([1,2],[1,2]),([3],[3]),([4],[4]),([],[]),([],[]),([6,7],[6,7]),([8],[8]),([9],[9]),([10],[10]),([11],[11]),([],[]),([],[]),([13,14],[13,14]),([15],[15]),([16],[16]),([5,12,17],[5,12,17]),([18],[18]),([0,19],[0,19]),([20,20,0,1,2,3,4,5,6,7,8,9,10,11,12,13,14,15,16,17,18,19,20],[0,20])])
def leatref11_Fire.B8:List Nat:=[0,0,0,6,14,30,0,0,192,448,960,1984,4032,0,0,24576,57344,122880,262142,524286,1048575,2097151]
theorem leatref11_Fire.tab8:rtab .any (opsOf Try.f41 8)=leatref11_Fire.T8:=by kernel_rfl
theorem leatref11_Fire.bits8:waitsOk leatref11_Fire.T8.2 leatref11_Fire.B8=true:=by kernel_rfl
set_option maxHeartbeats 8000000 in
set_option maxRecDepth 100000 in
theorem leatref11_Fire.calls (k:Nat) (A0:Option Addr) (c0:Nat) (l0:List (S70)) (a1:Int) (r1:List (S39)) (r2:List (S70)) (w:World) (hr0:Kd.C k70 w A0 l0.length l0) (hc0:l0.length<=c0) (h:leatref11_Fire.f k l0 a1=some (r1,r2)):
  Calls Try.prog 41 #[.slice A0 l0.length c0,.int .i64 a1] w fun e w'=> ∃v0_ v1_:Value,e= .returned (.tuple #[v0_,v1_])/\Kd.R k39 39 w' w.heap.size (fun _=>True) v0_ r1/\Kd.R k70 70 w' w.heap.size (fun _=>True) v1_ r2/\Below w.heap.size w w' :=by
 have hu39:=Try.underlying39;have hu70:=Try.underlying70;have HR0:=zd hr0;have HC0:=zd hc0;clear hr0 hc0;have HB:=zd (Below.refl w.heap.size w);have H:((leatref11_Sort.f k l0).bind fun t244=>(leatref11_Fire.l0 k t244 a1 ([]:List (S39)) ([]:List (S70)) 0))=some (r1,r2):=h;clear h;replace H:=Option.bind_eq_some_iff.mp H;obtain⟨t244,A30,H⟩:=H;replace H:(leatref11_Fire.l0 k t244 a1 ([]:List (S39)) ([]:List (S70)) 0)=some (r1,r2):=H;have A3:=zd A30;clear A30;have H' :=zd H;clear H;go_enter Try.func41,Try.ntmps41;go_wp2_with (first|((with_reducible refine gate_callee (f:=24) rfl ?_);refine goesL_ (some 10) rfl rfl Try.func24 (by kernel_rfl) rfl #[.slice A0 l0.length c0] rfl (by(try simp only[List.map_toArray,List.map_cons,List.map_nil]);first|done|rfl|(simp only[List.length_drop,List.length_take];rfl)) ?_;(with_reducible refine(leatref11_Sort.calls k _ _ l0 t244 _ ?side1 ?side2 A3.out).mono ?_);(case side1=>repeat (first|exact HR0.out|(with_reducible refine Kd.C_alloc ?_ _)|(with_reducible refine Kd.C_drewN ?_ _)|(with_reducible refine Kd.C_drew ?_)));(case side2=>exact HC0.out);rintro e w4 ⟨v245,rfl,ho0,hb⟩;refine⟨_,rfl,?_⟩;have n0_:=zd (Kd.R_lower ho0 (below_size (by repeat (first|(with_reducible first|exact HB.out|apply zh|apply zi|apply zj)|exact HB.out))));have n1_:=zd (zs (by repeat (first|(with_reducible first|exact HB.out|apply zh|apply zi|apply zj)|exact HB.out)) hb);clear HB;have HO246:=n0_;have HB:=n1_;clear n0_ n1_;(try clear hb);(try clear hb2);(try clear hk);(try clear hi);(try clear ho0)));go_loopg [6,7,8] k (fun kq v6 v7 v8 w'=> ∃(x6_1:List (S39)) (x7_1:List (S70)) (x8_1:Int),v8= .int .i64 x8_1/\Aside0 (leatref11_Fire.l0 kq t244 a1 x6_1 x7_1 x8_1=some (r1,r2))/\Aside0 (kq<=k)/\Aside0 (Kd.R k70 70 w' w.heap.size (fun k_=>some k_≠(v7:Value).ownBlock) v245 t244)/\Aside0 (Kd.R k39 39 w' w.heap.size (fun _=>True) v6 x6_1)/\Aside0 (Kd.R k70 70 w' w.heap.size (fun k_=>some k_≠(v245:Value).ownBlock) v7 x7_1)/\Aside0 (Below w.heap.size w w'))
 case atStart=>exact⟨(([]:List (S39))),(([]:List (S70))),(0),(by first|rfl|(simp;done)|(simp[*];done)),H',⟨Nat.le_refl _⟩,⟨by(with_reducible repeat (first|apply ze|apply zf|apply zg));exact zq HO246.out (fun _ hk=>(by simp[Value.ownBlock]))⟩,⟨by first|exact Kd.R_nil _ _ _ _ _|exact Kd.N_nil _ _ _ _ _|exact Kd.V_nil _ _ _ _ _|exact Kd.Q_nil _ _ _ _ _|exact Kd.S_nil _ _ _ _ _⟩,⟨by first|exact Kd.R_nil _ _ _ _ _|exact Kd.N_nil _ _ _ _ _|exact Kd.V_nil _ _ _ _ _|exact Kd.Q_nil _ _ _ _ _|exact Kd.S_nil _ _ _ _ _⟩,⟨by repeat (first|(with_reducible first|exact HB.out|apply zh|apply zi|apply zj)|exact HB.out)⟩⟩
 case round=>
  clear H'
  try clear c2;try clear p2;try clear c4
  obtain⟨x6_1,x7_1,x8_1,rfl,HA,HK1,HO_0,HO_6,HO_7,HB⟩:=hrel;cases gk with
  |zero=>exact absurd HA.out (by simp[leatref11_Fire.l0])
  | succ k1=>
   have H:=HA.out;clear HA;simp only[leatref11_Fire.l0] at H;by_cases c5:x8_1<(t244.length:Int)
   ·rw [if_pos c5] at H;have c5b0:decide (x8_1<(t244.length:Int))=true:=decide_eq_true c5;clear c5;by_cases c6:0<=x8_1
    ·rw [if_pos c6] at H;have c6b0:decide (0<=x8_1)=true:=decide_eq_true c6;clear c6;by_cases c7:(wrap64 (((rd_T70 t244 x8_1).f1.f1)-1))<=a1
     ·rw[if_pos c7] at H;have c7b0:decide ((wrap64 (((rd_T70 t244 x8_1).f1.f1)-1))<=a1)=true:=decide_eq_true c7;clear c7;by_cases c8:x6_1.length<5864062014805
      ·rw[if_pos c8] at H;have LMc8:=zd c8;clear c8;obtain⟨y251,hy251⟩: ∃y_:List (S39),y_=(x6_1++[(⟨(rd_T70 t244 x8_1).f0,wrap64 (((rd_T70 t244 x8_1).f1.f1)-1),(rd_T70 t244 x8_1).f2⟩:S39)]):=⟨_,rfl⟩
       replace H:(leatref11_Fire.l0 k1 t244 a1 y251 x7_1 (wrap64 (x8_1+1)))=some (r1,r2):=by first|(rw[hy251];with_reducible exact H)|(have H2_:=(Option.bind_some _ _).symm.trans H;rw[hy251];with_reducible exact H2_)|(have H2_:=(Option.bind_some _ _).symm.trans H;with_reducible exact H2_)|with_reducible exact H|(rw[hy251];exact H)|exact H
       have Ny251:=zd hy251;clear hy251;have H' :=zd H;clear H;obtain⟨Ao9,co9,eo9⟩:=Kd.R_slice HO_0.out;subst eo9;have p247:0<=(x8_1:Int):=of_decide_eq_true (by first|(with_reducible assumption)|assumption);have q247:x8_1<(t244.length:Int):=of_decide_eq_true (by first|(with_reducible assumption)|assumption);obtain⟨ad247,e247,hx247_0,hx247_1,hx247_2,hx247_3⟩:=at_T70 (Kd.R_reads' HO_0.out).2.2 x8_1 p247 q247;cases e247;replace p247:=eq_true p247;replace q247:=eq_true q247
       try go_wp2
       have n0_:=zd (zg HO_0.out);have n1_:=zd (zg HO_6.out);have n2_:=zd (zg HO_7.out);have n3_:=zd (zj HB.out);clear HO_0;clear HO_6;clear HO_7;clear HB;have HO_0:=n0_;have HO_6:=n1_;have HO_7:=n2_;have HB:=n3_;clear n0_ n1_ n2_ n3_;have p248:0<=(x8_1:Int):=of_decide_eq_true (by first|(with_reducible assumption)|assumption);have q248:x8_1<(t244.length:Int):=of_decide_eq_true (by first|(with_reducible assumption)|assumption);obtain⟨ad248,e248,hx248_0,hx248_1,hx248_2,hx248_3⟩:=at_T70 (Kd.R_reads' HO_0.out).2.2 x8_1 p248 q248;obtain rfl:ad247=ad248:=(by injection e248)
       replace p248:=eq_true p248;replace q248:=eq_true q248;have p249:0<=(x8_1:Int):=of_decide_eq_true (by first|(with_reducible assumption)|assumption);have q249:x8_1<(t244.length:Int):=of_decide_eq_true (by first|(with_reducible assumption)|assumption);obtain⟨ad249,e249,hx249_0,hx249_1,hx249_2,hx249_3⟩:=at_T70 (Kd.R_reads' HO_0.out).2.2 x8_1 p249 q249;obtain rfl:ad247=ad249:=(by injection e249)
       replace p249:=eq_true p249;replace q249:=eq_true q249;have p250:0<=(x8_1:Int):=of_decide_eq_true (by first|(with_reducible assumption)|assumption);have q250:x8_1<(t244.length:Int):=of_decide_eq_true (by first|(with_reducible assumption)|assumption);obtain⟨ad250,e250,hx250_0,hx250_1,hx250_2,hx250_3⟩:=at_T70 (Kd.R_reads' HO_0.out).2.2 x8_1 p250 q250;obtain rfl:ad247=ad250:=(by injection e250)
       replace p250:=eq_true p250;replace q250:=eq_true q250;refine start_ (n:=22) (S:=fun w'=>w'.cell? (ad247.add ((x8_1).toNat*4))=some (.int .i64 ((rd_T70 t244 x8_1).f0))/\w'.cell? ⟨(ad247.add ((x8_1).toNat*4)).block,(ad247.add ((x8_1).toNat*4)).off+1,none⟩=some (.int .i64 ((rd_T70 t244 x8_1).f1.f0))/\w'.cell? ⟨(ad247.add ((x8_1).toNat*4)).block,(ad247.add ((x8_1).toNat*4)).off+2,none⟩=some (.int .i64 ((rd_T70 t244 x8_1).f1.f1))/\w'.cell? ⟨(ad247.add ((x8_1).toNat*4)).block,(ad247.add ((x8_1).toNat*4)).off+3,none⟩=some (.int .i64 ((rd_T70 t244 x8_1).f2))/\w'.cell? (ad247.add ((x8_1).toNat*4))=some (.int .i64 ((rd_T70 t244 x8_1).f0))/\w'.cell? ⟨(ad247.add ((x8_1).toNat*4)).block,(ad247.add ((x8_1).toNat*4)).off+1,none⟩=some (.int .i64 ((rd_T70 t244 x8_1).f1.f0))/\w'.cell? ⟨(ad247.add ((x8_1).toNat*4)).block,(ad247.add ((x8_1).toNat*4)).off+2,none⟩=some (.int .i64 ((rd_T70 t244 x8_1).f1.f1))/\w'.cell? ⟨(ad247.add ((x8_1).toNat*4)).block,(ad247.add ((x8_1).toNat*4)).off+3,none⟩=some (.int .i64 ((rd_T70 t244 x8_1).f2))/\w'.cell? (ad247.add ((x8_1).toNat*4))=some (.int .i64 ((rd_T70 t244 x8_1).f0))/\w'.cell? ⟨(ad247.add ((x8_1).toNat*4)).block,(ad247.add ((x8_1).toNat*4)).off+1,none⟩=some (.int .i64 ((rd_T70 t244 x8_1).f1.f0))/\w'.cell? ⟨(ad247.add ((x8_1).toNat*4)).block,(ad247.add ((x8_1).toNat*4)).off+2,none⟩=some (.int .i64 ((rd_T70 t244 x8_1).f1.f1))/\w'.cell? ⟨(ad247.add ((x8_1).toNat*4)).block,(ad247.add ((x8_1).toNat*4)).off+3,none⟩=some (.int .i64 ((rd_T70 t244 x8_1).f2))) (ds:=[19,20]) #[f_,f_,f_,f_,f_,f_,f_,f_,f_,f_,f_,f_,f_,f_,f_,f_,f_,f_,f_,f_,f_,f_] (by kernel_rfl) rfl rfl ⟨hx248_0,hx248_1,hx248_2,hx248_3,hx249_0,hx249_1,hx249_2,hx249_3,hx250_0,hx250_1,hx250_2,hx250_3⟩ (fun hHeld=> ?_);refine with_tabW leatref11_Fire.tab8 leatref11_Fire.bits8 (fun HT_ HW_=> ?_);generalize wr.drew=w10 at HO_0 HO_6 HO_7 HB hx248_0 hx248_1 hx248_2 hx248_3 hx249_0 hx249_1 hx249_2 hx249_3 hx250_0 hx250_1 hx250_2 hx250_3 hHeld ⊢;refine pure_ (i:=0) (N:=some 26) (v:= ?_) (a' := ?_) #[t_,f_,f_,f_,f_,f_,f_,f_,f_,f_,f_,f_,f_,f_,f_,f_,f_,f_,f_,f_,f_,f_] rfl rfl (any_of HT_.out (by kernel_rfl)) (fun _ _ _ h=>h) (Or.inl ⟨by rfl,?_⟩) ?_ ?_;rotate_left
       ·intro w';go_simp
        with_reducible rfl
       rotate_left
       ·simp only[Act.put,za,zb,zc,i64_w,i32_w];rfl
       refine pure_ (i:=1) (N:=some 27) (v:= ?_) (a' := ?_) #[t_,t_,f_,f_,f_,f_,f_,f_,f_,f_,f_,f_,f_,f_,f_,f_,f_,f_,f_,f_,f_,f_] rfl rfl (any_of HT_.out (by kernel_rfl)) (fun _ _ _ h=>h) (Or.inl ⟨by rfl,?_⟩) ?_ ?_;rotate_left
       ·intro w';go_simp
        with_reducible rfl
       rotate_left
       ·simp only[Act.put,za,zb,zc,i64_w,i32_w];rfl
       refine pure_ (i:=2) (N:=some 28) (v:= ?_) (a' := ?_) #[t_,t_,t_,f_,f_,f_,f_,f_,f_,f_,f_,f_,f_,f_,f_,f_,f_,f_,f_,f_,f_,f_] rfl rfl (any_of HT_.out (by kernel_rfl)) (fun _ _ _ h=>h) (Or.inl ⟨by rfl,?_⟩) ?_ ?_;rotate_left
       ·intro w';go_simp
        with_reducible rfl
       rotate_left
       ·simp only[Act.put,za,zb,zc,i64_w,i32_w];rfl
       refine pure_ (i:=3) (N:=some 29) (v:= ?_) (a' := ?_) #[t_,t_,t_,t_,f_,f_,f_,f_,f_,f_,f_,f_,f_,f_,f_,f_,f_,f_,f_,f_,f_,f_] rfl rfl (any_of HT_.out (by kernel_rfl)) (fun _ _ _ h=>h) (Or.inl ⟨by rfl,?_⟩) ?_ ?_;rotate_left
       ·intro w';go_simp
        with_reducible rfl
       rotate_left
       ·simp only[Act.put,za,zb,zc,i64_w,i32_w];rfl
       refine pure_ (i:=4) (N:=some 30) (v:= ?_) (a' := ?_) #[t_,t_,t_,t_,t_,f_,f_,f_,f_,f_,f_,f_,f_,f_,f_,f_,f_,f_,f_,f_,f_,f_] rfl rfl (any_of HT_.out (by kernel_rfl)) (fun _ _ _ h=>h) (Or.inl ⟨by rfl,?_⟩) ?_ ?_;rotate_left
       ·intro w';go_simp
        with_reducible rfl
       rotate_left
       ·simp only[Act.put,za,zb,zc,i64_w,i32_w];rfl
       refine pure_ (i:=6) (N:=some 32) (v:= ?_) (a' := ?_) #[t_,t_,t_,t_,t_,f_,t_,f_,f_,f_,f_,f_,f_,f_,f_,f_,f_,f_,f_,f_,f_,f_] rfl rfl (any_of HT_.out (by kernel_rfl)) (fun _ _ _ h=>h) (Or.inl ⟨by rfl,?_⟩) ?_ ?_;rotate_left
       ·intro w';go_simp
        with_reducible rfl
       rotate_left
       ·simp only[Act.put,za,zb,zc,i64_w,i32_w];rfl
       refine pure_ (i:=7) (N:=some 33) (v:= ?_) (a' := ?_) #[t_,t_,t_,t_,t_,f_,t_,t_,f_,f_,f_,f_,f_,f_,f_,f_,f_,f_,f_,f_,f_,f_] rfl rfl (any_of HT_.out (by kernel_rfl)) (fun _ _ _ h=>h) (Or.inl ⟨by rfl,?_⟩) ?_ ?_;rotate_left
       ·intro w';go_simp
        with_reducible rfl
       rotate_left
       ·simp only[Act.put,za,zb,zc,i64_w,i32_w];rfl
       refine pure_ (i:=8) (N:=some 34) (v:= ?_) (a' := ?_) #[t_,t_,t_,t_,t_,f_,t_,t_,t_,f_,f_,f_,f_,f_,f_,f_,f_,f_,f_,f_,f_,f_] rfl rfl (any_of HT_.out (by kernel_rfl)) (fun _ _ _ h=>h) (Or.inl ⟨by rfl,?_⟩) ?_ ?_;rotate_left
       ·intro w';go_simp
        with_reducible rfl
       rotate_left
       ·simp only[Act.put,za,zb,zc,i64_w,i32_w];rfl
       refine pure_ (i:=9) (N:=some 35) (v:= ?_) (a' := ?_) #[t_,t_,t_,t_,t_,f_,t_,t_,t_,t_,f_,f_,f_,f_,f_,f_,f_,f_,f_,f_,f_,f_] rfl rfl (any_of HT_.out (by kernel_rfl)) (fun _ _ _ h=>h) (Or.inl ⟨by rfl,?_⟩) ?_ ?_;rotate_left
       ·intro w';go_simp
        with_reducible rfl
       rotate_left
       ·simp only[Act.put,za,zb,zc,i64_w,i32_w];rfl
       refine pure_ (i:=10) (N:=some 36) (v:= ?_) (a' := ?_) #[t_,t_,t_,t_,t_,f_,t_,t_,t_,t_,t_,f_,f_,f_,f_,f_,f_,f_,f_,f_,f_,f_] rfl rfl (any_of HT_.out (by kernel_rfl)) (fun _ _ _ h=>h) (Or.inl ⟨by rfl,?_⟩) ?_ ?_;rotate_left
       ·intro w';go_simp
        with_reducible rfl
       rotate_left
       ·simp only[Act.put,za,zb,zc,i64_w,i32_w];rfl
       refine pure_ (i:=13) (N:=some 39) (v:= ?_) (a' := ?_) #[t_,t_,t_,t_,t_,f_,t_,t_,t_,t_,t_,f_,f_,t_,f_,f_,f_,f_,f_,f_,f_,f_] rfl rfl (any_of HT_.out (by kernel_rfl)) (fun _ _ _ h=>h) (Or.inl ⟨by rfl,?_⟩) ?_ ?_;rotate_left
       ·intro w';go_simp
        with_reducible rfl
       rotate_left
       ·simp only[Act.put,za,zb,zc,i64_w,i32_w];rfl
       refine pure_ (i:=14) (N:=some 40) (v:= ?_) (a' := ?_) #[t_,t_,t_,t_,t_,f_,t_,t_,t_,t_,t_,f_,f_,t_,t_,f_,f_,f_,f_,f_,f_,f_] rfl rfl (any_of HT_.out (by kernel_rfl)) (fun _ _ _ h=>h) (Or.inl ⟨by rfl,?_⟩) ?_ ?_;rotate_left
       ·intro w';go_simp
        with_reducible rfl
       rotate_left
       ·simp only[Act.put,za,zb,zc,i64_w,i32_w];rfl
       refine pure_ (i:=15) (N:=some 41) (v:= ?_) (a' := ?_) #[t_,t_,t_,t_,t_,f_,t_,t_,t_,t_,t_,f_,f_,t_,t_,t_,f_,f_,f_,f_,f_,f_] rfl rfl (any_of HT_.out (by kernel_rfl)) (fun _ _ _ h=>h) (Or.inl ⟨by rfl,?_⟩) ?_ ?_;rotate_left
       ·intro w';go_simp
        with_reducible rfl
       rotate_left
       ·simp only[Act.put,za,zb,zc,i64_w,i32_w];rfl
       refine pure_ (i:=16) (N:=some 42) (v:= ?_) (a' := ?_) #[t_,t_,t_,t_,t_,f_,t_,t_,t_,t_,t_,f_,f_,t_,t_,t_,t_,f_,f_,f_,f_,f_] rfl rfl (any_of HT_.out (by kernel_rfl)) (fun _ _ _ h=>h) (Or.inl ⟨by rfl,?_⟩) ?_ ?_;rotate_left
       ·intro w';go_simp
        with_reducible rfl
       rotate_left
       ·simp only[Act.put,za,zb,zc,i64_w,i32_w];rfl
       refine take_ (i:=5) (N:=some 31) (v:= ?_) (a' := ?_) #[t_,t_,t_,t_,t_,t_,t_,t_,t_,t_,t_,f_,f_,t_,t_,t_,t_,f_,f_,f_,f_,f_] rfl rfl (take_ofW HT_.out HW_.out (by kernel_rfl)) (fun _ _ _ h=>h) (Or.inl ⟨by rfl,?_⟩) hHeld ?_ ?_;rotate_left
       ·rintro w' ⟨s0,s1,s2,s3,s4,s5,s6,s7,s8,s9,s10,s11⟩;go_simp
        with_reducible rfl
       rotate_left
       ·simp only[Act.put,za,zb,zc,i64_w,i32_w];rfl
       refine take_ (i:=11) (N:=some 37) (v:= ?_) (a' := ?_) #[t_,t_,t_,t_,t_,t_,t_,t_,t_,t_,t_,t_,f_,t_,t_,t_,t_,f_,f_,f_,f_,f_] rfl rfl (take_ofW HT_.out HW_.out (by kernel_rfl)) (fun _ _ _ h=>h) (Or.inl ⟨by rfl,?_⟩) hHeld ?_ ?_;rotate_left
       ·rintro w' ⟨s0,s1,s2,s3,s4,s5,s6,s7,s8,s9,s10,s11⟩;go_simp
        with_reducible rfl
       rotate_left
       ·simp only[Act.put,za,zb,zc,i64_w,i32_w];rfl
       refine pure_ (i:=12) (N:=some 38) (v:= ?_) (a' := ?_) #[t_,t_,t_,t_,t_,t_,t_,t_,t_,t_,t_,t_,t_,t_,t_,t_,t_,f_,f_,f_,f_,f_] rfl rfl (any_of HT_.out (by kernel_rfl)) (fun _ _ _ h=>h) (Or.inl ⟨by rfl,?_⟩) ?_ ?_;rotate_left
       ·intro w';go_simp
        with_reducible rfl
       rotate_left
       ·simp only[Act.put,za,zb,zc,i64_w,i32_w];rfl
       refine take_ (i:=17) (N:=some 43) (v:= ?_) (a' := ?_) #[t_,t_,t_,t_,t_,t_,t_,t_,t_,t_,t_,t_,t_,t_,t_,t_,t_,t_,f_,f_,f_,f_] rfl rfl (take_ofW HT_.out HW_.out (by kernel_rfl)) (fun _ _ _ h=>h) (Or.inl ⟨by rfl,?_⟩) hHeld ?_ ?_;rotate_left
       ·rintro w' ⟨s0,s1,s2,s3,s4,s5,s6,s7,s8,s9,s10,s11⟩;go_simp
        with_reducible rfl
       rotate_left
       ·simp only[Act.put,za,zb,zc,i64_w,i32_w];rfl
       refine pure_ (i:=18) (N:=some 44) (v:= ?_) (a' := ?_) #[t_,t_,t_,t_,t_,t_,t_,t_,t_,t_,t_,t_,t_,t_,t_,t_,t_,t_,t_,f_,f_,f_] rfl rfl (any_of HT_.out (by kernel_rfl)) (fun _ _ _ h=>h) (Or.inl ⟨by rfl,?_⟩) ?_ ?_;rotate_left
       ·intro w';go_simp
        with_reducible rfl
       rotate_left
       ·simp only[Act.put,za,zb,zc,i64_w,i32_w];rfl
       refine last_ (i:=19) (N:=some 45) #[t_,t_,t_,t_,t_,t_,t_,t_,t_,t_,t_,t_,t_,t_,t_,t_,t_,t_,t_,t_,f_,f_] rfl rfl (one_of HT_.out (by kernel_rfl)) (by decide) (fun K hK=> ?_);refine value_ (w1:= ?_) (v:= ?_) (by rfl) rfl ?_ ?_;rotate_left 2
       ·go_simp;constructor
        ·rfl
        ·rfl
       refine hK.out _ _ ?_;clear hK K;refine norm_ (a' := ?_) ?_ ?_;rotate_left
       ·show Act.put _ (some 45) _=_;simp only[Act.put,za,zb,zc,i64_w,i32_w];rfl
       refine last_ (i:=20) (N:=some 46) #[t_,t_,t_,t_,t_,t_,t_,t_,t_,t_,t_,t_,t_,t_,t_,t_,t_,t_,t_,t_,t_,f_] rfl rfl (one_of HT_.out (by kernel_rfl)) (by decide) (fun K hK=> ?_);refine Kd.R_append_step k39 (w0:=w) w.heap.size (by rfl) (.tmp 26) (.tmp 45) 47 39 (.agg #[(.int .i64 0),(.int .i64 0),(.int .i64 0)]) 24 rfl Try.underlying47 info39 rfl (by decide) (by omega) u6 x6_1 (⟨(rd_T70 t244 x8_1).f0,wrap64 (((rd_T70 t244 x8_1).f1.f1)-1),(rd_T70 t244 x8_1).f2⟩:S39) [.int .i64 ((rd_T70 t244 x8_1).f0),.int .i64 (wrap64 (((rd_T70 t244 x8_1).f1.f1)-1)),.int .i64 ((rd_T70 t244 x8_1).f2)] (fun _=>True) (fun _=>False) rfl rfl ?aP (fun _ hk=>hk.elim) ?aF ?aO ?aB ?aS ?aL ?_
       (case aP=>exact k39_mkM _ _ _ (⟨(rd_T70 t244 x8_1).f0,wrap64 (((rd_T70 t244 x8_1).f1.f1)-1),(rd_T70 t244 x8_1).f2⟩:S39))
       (case aB=>exact(by repeat (first|(with_reducible first|exact HB.out|apply zh|apply zi|apply zj)|exact HB.out)))
       (case aF=>exact(fun _ _=>trivial))
       (case aO=>exact(by(with_reducible repeat (first|apply ze|apply zf|apply zg));exact HO_6.out))
       (case aS=>exact(below_size (by repeat (first|(with_reducible first|exact HB.out|apply zh|apply zi|apply zj)|exact HB.out))))
       (case aL=>have:=LMc8.out;omega)
       intro v252 w11 ho hb hg hat;rw[←Ny251.out] at ho;have n0_:=zd (Kd.R_over' (by(with_reducible repeat (first|apply ze|apply zf|apply zg));exact HO_0.out) (Kd.R_typed (by(with_reducible repeat (first|apply ze|apply zf|apply zg));exact HO_6.out)) (by decide) hg);have n1_:=zd (Kd.R_over' (by(with_reducible repeat (first|apply ze|apply zf|apply zg));exact HO_7.out) (Kd.R_typed (by(with_reducible repeat (first|apply ze|apply zf|apply zg));exact HO_6.out)) (by decide) hg);have n2_:=zd (hb);have n3_:=zd (ho);clear HO_0;clear HO_7;clear HB;clear HO_6;have HO_0:=n0_;have HO_7:=n1_;have HB:=n2_;have HO253:=n3_;clear n0_ n1_ n2_ n3_;clear ho hb hg hat;refine hK.out _ _ ?_;clear hK K;refine norm_ (a' := ?_) ?_ ?_;rotate_left
       ·show Act.put _ (some 46) _=_;simp only[Act.put,za,zb,zc,i64_w,i32_w];rfl
       refine pure_ (i:=21) (N:=some 6) (v:= ?_) (a' := ?_) #[t_,t_,t_,t_,t_,t_,t_,t_,t_,t_,t_,t_,t_,t_,t_,t_,t_,t_,t_,t_,t_,t_] rfl rfl (any_of HT_.out (by kernel_rfl)) (fun _ _ _ h=>h) (Or.inl ⟨by rfl,?_⟩) ?_ ?_;rotate_left
       ·intro w';go_simp
        with_reducible rfl
       rotate_left
       ·simp only[Act.put,za,zb,zc,i64_w,i32_w];rfl
       refine done_ (done_of HT_.out (by kernel_rfl)) ?_
       try go_wp2
       go_roundg k1
       case measure=>have:=HK1.out;omega
       case rel=>exact⟨(y251),(x7_1),(wrap64 (x8_1+1)),(by first|rfl|(simp;done)|(simp[*];done)),H',⟨by have:=HK1.out;omega⟩,⟨by(with_reducible repeat (first|apply ze|apply zf|apply zg));exact HO_0.out⟩,⟨by(with_reducible repeat (first|apply ze|apply zf|apply zg));exact HO253.out⟩,⟨by(with_reducible repeat (first|apply ze|apply zf|apply zg));exact HO_7.out⟩,⟨by repeat (first|(with_reducible first|exact HB.out|apply zh|apply zi|apply zj)|exact HB.out)⟩⟩
      ·rw[if_neg c8] at H;exact absurd H (by simp)
     ·rw[if_neg c7] at H;have c7b0:decide ((wrap64 (((rd_T70 t244 x8_1).f1.f1)-1))<=a1)=false:=decide_eq_false c7;clear c7;by_cases c12:x7_1.length<4398046511104
      ·rw[if_pos c12] at H;have LMc12:=zd c12;clear c12;obtain⟨y255,hy255⟩: ∃y_:List (S70),y_=(x7_1++[(⟨(rd_T70 t244 x8_1).f0,(⟨(rd_T70 t244 x8_1).f1.f0,(rd_T70 t244 x8_1).f1.f1⟩:S68),(rd_T70 t244 x8_1).f2⟩:S70)]):=⟨_,rfl⟩
       replace H:(leatref11_Fire.l0 k1 t244 a1 x6_1 y255 (wrap64 (x8_1+1)))=some (r1,r2):=by first|(rw[hy255];with_reducible exact H)|(have H2_:=(Option.bind_some _ _).symm.trans H;rw[hy255];with_reducible exact H2_)|(have H2_:=(Option.bind_some _ _).symm.trans H;with_reducible exact H2_)|with_reducible exact H|(rw[hy255];exact H)|exact H
       have Ny255:=zd hy255;clear hy255;have H' :=zd H;clear H;obtain⟨Ao13,co13,eo13⟩:=Kd.R_slice HO_0.out;subst eo13;have p247:0<=(x8_1:Int):=of_decide_eq_true (by first|(with_reducible assumption)|assumption);have q247:x8_1<(t244.length:Int):=of_decide_eq_true (by first|(with_reducible assumption)|assumption);obtain⟨ad247,e247,hx247_0,hx247_1,hx247_2,hx247_3⟩:=at_T70 (Kd.R_reads' HO_0.out).2.2 x8_1 p247 q247;cases e247;replace p247:=eq_true p247;replace q247:=eq_true q247;have p254:0<=(x8_1:Int):=of_decide_eq_true (by first|(with_reducible assumption)|assumption);have q254:x8_1<(t244.length:Int):=of_decide_eq_true (by first|(with_reducible assumption)|assumption);obtain⟨ad254,e254,hx254_0,hx254_1,hx254_2,hx254_3⟩:=at_T70 (Kd.R_reads' HO_0.out).2.2 x8_1 p254 q254;obtain rfl:ad247=ad254:=(by injection e254)
       replace p254:=eq_true p254;replace q254:=eq_true q254;go_wp2_with (first|((with_reducible refine gate_builtin (b:= .append) (xs:= #[.tmp 47,.tmp 52]) rfl ?_);at_builtin;refine Kd.R_append k70 (w0:=w) w.heap.size rfl (.tmp 47) (.tmp 52) 44 70 (.agg #[(.int .i64 0),(.int .i64 0),(.int .i64 0),(.int .i64 0)]) 32 rfl Try.underlying44 info70 rfl (by decide) (by omega) u7 x7_1 (⟨(rd_T70 t244 x8_1).f0,(⟨(rd_T70 t244 x8_1).f1.f0,(rd_T70 t244 x8_1).f1.f1⟩:S68),(rd_T70 t244 x8_1).f2⟩:S70) [.int .i64 ((rd_T70 t244 x8_1).f0),.int .i64 ((rd_T70 t244 x8_1).f1.f0),.int .i64 ((rd_T70 t244 x8_1).f1.f1),.int .i64 ((rd_T70 t244 x8_1).f2)] (fun k_=>some k_≠(.slice (some ad247) t244.length co13:Value).ownBlock) (fun _=>False) rfl rfl ?aP (fun _ hk=>hk.elim) ?aF ?aO ?aB ?aS ?aL ?_;(case aP=>exact k70_mkM _ _ _ (⟨(rd_T70 t244 x8_1).f0,(⟨(rd_T70 t244 x8_1).f1.f0,(rd_T70 t244 x8_1).f1.f1⟩:S68),(rd_T70 t244 x8_1).f2⟩:S70));(case aB=>exact(by repeat (first|(with_reducible first|exact HB.out|apply zh|apply zi|apply zj)|exact HB.out)));(case aF=>exact(fun k_ hk=>Kd.fresh' (Kd.R_lt (by(with_reducible repeat (first|apply ze|apply zf|apply zg));exact HO_0.out)) k_ hk));(case aO=>exact(by(with_reducible repeat (first|apply ze|apply zf|apply zg));exact HO_7.out));(case aS=>exact(below_size (by repeat (first|(with_reducible first|exact HB.out|apply zh|apply zi|apply zj)|exact HB.out))));(case aL=>have:=LMc12.out;omega);intro v256 w14 ho hb hg hat;rw[←Ny255.out] at ho;have n0_:=zd (Kd.R_after (ok:=(fun _=>True)) (by(with_reducible repeat (first|apply ze|apply zf|apply zg));exact zq HO_0.out (fun _ hk=>⟨trivial,hk⟩)) hg hat);have n1_:=zd (Kd.R_over' (by(with_reducible repeat (first|apply ze|apply zf|apply zg));exact HO_6.out) (Kd.R_typed (by(with_reducible repeat (first|apply ze|apply zf|apply zg));exact HO_7.out)) (by decide) hg);have n2_:=zd (hb);have n3_:=zd (ho);clear HO_0;clear HO_6;clear HB;clear HO_7;have HO_0:=n0_;have HO_6:=n1_;have HB:=n2_;have HO257:=n3_;clear n0_ n1_ n2_ n3_;clear ho hb hg hat));go_roundg k1
       case measure=>have:=HK1.out;omega
       case rel=>exact⟨(x6_1),(y255),(wrap64 (x8_1+1)),(by first|rfl|(simp;done)|(simp[*];done)),H',⟨by have:=HK1.out;omega⟩,⟨by(with_reducible repeat (first|apply ze|apply zf|apply zg));exact zq HO_0.out (fun _ hk=>hk.2)⟩,⟨by(with_reducible repeat (first|apply ze|apply zf|apply zg));exact HO_6.out⟩,⟨by(with_reducible repeat (first|apply ze|apply zf|apply zg));exact HO257.out⟩,⟨by repeat (first|(with_reducible first|exact HB.out|apply zh|apply zi|apply zj)|exact HB.out)⟩⟩
      ·rw[if_neg c12] at H;exact absurd H (by simp)
    ·rw[if_neg c6] at H;exact absurd H (by simp)
   ·rw[if_neg c5] at H;have c5b0:decide (x8_1<(t244.length:Int))=false:=decide_eq_false c5;clear c5;simp only[Option.some.injEq,Prod.mk.injEq] at H;obtain⟨rfl,rfl⟩:=H;obtain⟨Ao15,co15,eo15⟩:=Kd.R_slice HO_0.out;subst eo15;go_wp2;go_ret2;exact⟨_,_,by first|rfl|(simp[errW_none,errW_some]<;>rfl)|(simp[*,errW_none,errW_some]<;>rfl),by(with_reducible repeat (first|apply ze|apply zf|apply zg));exact HO_6.out,by(with_reducible repeat (first|apply ze|apply zf|apply zg));exact zq HO_7.out (fun _ hk=>trivial),by repeat (first|(with_reducible first|exact HB.out|apply zh|apply zi|apply zj)|exact HB.out)⟩
end Go.Proofs.Ytjegeghigfmkoaa.X
namespace Go.Proofs.Ytjegeghigfmkoaa.X
open Go.RowKit Go.Proofs.YtjegeghigfmkoaaW.PrintWords Go.Proofs.YtjegeghigfmkoaaW.PrintLast Go.Proofs.YtjegeghigfmkoaaW.PrintMore
attribute [local go_sem] max2_int min2_int max_two min_two max_three min_three max_four min_four   -- for this text's walks alone
set_option linter.unusedVariables false
set_option linter.unusedSimpArgs false
def leatref13_Fires.f (k:Nat) (a0:Bool) (l1:List (S70)) (a2:Int):Option ((List (S39))×(List (S70))):=if a0=true then(if a2=9223372036854775807 then((leatref11_Fire.f k l1 a2).bind fun bt258=>(some (bt258.1,bt258.2))) else(some (([]:List (S39)),l1))) else((leatref11_Fire.f k l1 a2).bind fun bt264=>(some (bt264.1,bt264.2)))
set_option maxHeartbeats 8000000 in
set_option maxRecDepth 100000 in
theorem leatref13_Fires.calls (k:Nat) (a0:Bool) (P1_:Nat ->Prop) (u9000_:Value) (l1:List (S70)) (a2:Int) (r1:List (S39)) (r2:List (S70)) (w0 w:World) (hB:Below w0.heap.size w0 w) (ho1:Kd.R k70 70 w w0.heap.size P1_ u9000_ l1) (h:leatref13_Fires.f k a0 l1 a2=some (r1,r2)):
  Calls Try.prog 17 #[.bool a0,u9000_,.int .i64 a2] w fun e w'=> ∃v0_ v1_:Value,e= .returned (.tuple #[v0_,v1_])/\Kd.R k39 39 w' w0.heap.size (fun k_=>(P1_ k_∨w.heap.size<=k_)) v0_ r1/\Kd.R k70 70 w' w0.heap.size (fun k_=>(P1_ k_∨w.heap.size<=k_)) v1_ r2/\Below w0.heap.size w0 w'/\Kept w w' (fun k_=>P1_ k_):=by
 have HO1:=zd (show Kd.R k70 70 w w0.heap.size (fun k_=>(P1_ k_∨w.heap.size<=k_)) u9000_ l1 from zq ho1 (fun k_ hk=>(.inl hk)));have HK:=zd (Kept.refl w (fun k_=>P1_ k_));have HW0:=zd hB.size;have HB:=zd hB;clear hB;have H:(if a0=true then(if a2=9223372036854775807 then((leatref11_Fire.f k l1 a2).bind fun bt258=>(some (bt258.1,bt258.2))) else(some (([]:List (S39)),l1))) else((leatref11_Fire.f k l1 a2).bind fun bt264=>(some (bt264.1,bt264.2))))=some (r1,r2):=h;clear h;by_cases c4:a0=true
 ·subst c4;have H1:(if a2=9223372036854775807 then((leatref11_Fire.f k l1 a2).bind fun bt258=>(some (bt258.1,bt258.2))) else(some (([]:List (S39)),l1)))=some (r1,r2):=by rw[if_pos rfl] at H;exact H
  clear H;have H:=H1;clear H1;by_cases c5:a2=9223372036854775807
  ·rw[if_pos c5] at H;have c5b0:(a2==9223372036854775807)=true:=beq_iff_eq.mpr c5;have c5b1:(a2 !=9223372036854775807)=false:=bne_eq_false_iff_eq.mpr c5;clear c5;replace H:=Option.bind_eq_some_iff.mp H;obtain⟨⟨t258,t259⟩,A60,H⟩:=H;replace H:(some (t258,t259))=some (r1,r2):=H;have A6:=zd A60;clear A60;simp only[Option.some.injEq,Prod.mk.injEq] at H;obtain⟨rfl,rfl⟩:=H;obtain⟨Ao7,co7,eo7⟩:=Kd.R_slice HO1.out;subst eo7;go_enter Try.func17,Try.ntmps17;go_wp2_with (first|((with_reducible refine gate_callee (f:=41) rfl ?_);refine goesL_ (some 16) rfl rfl Try.func41 (by kernel_rfl) rfl #[.slice Ao7 l1.length co7,.int .i64 a2] rfl (by(try simp only[List.map_toArray,List.map_cons,List.map_nil]);first|done|rfl|(simp only[List.length_drop,List.length_take];rfl)) ?_;(with_reducible refine(leatref11_Fire.calls k _ _ l1 a2 t258 t259 _ ?side1 ?side2 A6.out).mono ?_);(case side1=>repeat (first|exact(Kd.R_reads' HO1.out).2.2|(with_reducible refine Kd.C_alloc ?_ _)|(with_reducible refine Kd.C_drewN ?_ _)|(with_reducible refine Kd.C_drew ?_)));(case side2=>exact(Kd.R_reads' HO1.out).2.1);rintro e w8 ⟨v260,v262,rfl,ho0,ho1,hb⟩;refine⟨_,rfl,?_⟩;have n0_:=zd (Kd.R_elder' (by(with_reducible repeat (first|apply ze|apply zf|apply zg));exact HO1.out) (Kd.R_base ho1) hb);have n1_:=zd (Kd.R_lower (Kd.R_newM (M:=fun k_=>(P1_ k_∨w.heap.size<=k_)) ho0 (by first|exact HK.out.1|exact(show Kept w _ (fun k_=>P1_ k_) from by repeat (first|(with_reducible first|exact HK.out|apply Kept.alloc|apply Kept.drewN|apply Kept.drew)|exact HK.out)).1) (fun k_ h_=> .inr h_)) (below_size (by repeat (first|(with_reducible first|exact HB.out|apply zh|apply zi|apply zj)|exact HB.out))));have n2_:=zd (Kd.R_lower (Kd.R_new' (Kd.R_newM (M:=fun k_=>(P1_ k_∨w.heap.size<=k_)) ho1 (by first|exact HK.out.1|exact(show Kept w _ (fun k_=>P1_ k_) from by repeat (first|(with_reducible first|exact HK.out|apply Kept.alloc|apply Kept.drewN|apply Kept.drew)|exact HK.out)).1) (fun k_ h_=> .inr h_)) (Kd.R_lt (by(with_reducible repeat (first|apply ze|apply zf|apply zg));exact HO1.out))) (below_size (by repeat (first|(with_reducible first|exact HB.out|apply zh|apply zi|apply zj)|exact HB.out))));have n3_:=zd (Kept.below (S:=(fun k_=>P1_ k_)) (by repeat (first|(with_reducible first|exact HK.out|apply Kept.alloc|apply Kept.drewN|apply Kept.drew)|exact HK.out)) hb);have n4_:=zd (zs (by repeat (first|(with_reducible first|exact HB.out|apply zh|apply zi|apply zj)|exact HB.out)) hb);clear HO1;clear HK;clear HB;have HO1:=n0_;have HO261:=n1_;have HO263:=n2_;have HK:=n3_;have HB:=n4_;clear n0_ n1_ n2_ n3_ n4_;(try clear hb);(try clear hb2);(try clear hk);(try clear hi);(try clear ho0);(try clear ho1)));go_ret2;exact⟨_,_,by first|rfl|(simp[errW_none,errW_some]<;>rfl)|(simp[*,errW_none,errW_some]<;>rfl),by(with_reducible repeat (first|apply ze|apply zf|apply zg));exact zq HO261.out (fun _ hk=>hk.1),by(with_reducible repeat (first|apply ze|apply zf|apply zg));exact zq HO263.out (fun _ hk=>hk.1.1),by repeat (first|(with_reducible first|exact HB.out|apply zh|apply zi|apply zj)|exact HB.out),by repeat (first|(with_reducible first|exact HK.out|apply Kept.alloc|apply Kept.drewN|apply Kept.drew)|exact HK.out)⟩
  ·rw[if_neg c5] at H;have c5b0:(a2==9223372036854775807)=false:=beq_eq_false_iff_ne.mpr c5;have c5b1:(a2 !=9223372036854775807)=true:=bne_iff_ne.mpr c5;simp only[Option.some.injEq,Prod.mk.injEq] at H;obtain⟨rfl,rfl⟩:=H;go_enter Try.func17,Try.ntmps17;go_wp2;go_ret2;exact⟨_,_,by first|rfl|(simp[errW_none,errW_some]<;>rfl)|(simp[*,errW_none,errW_some]<;>rfl),by first|exact Kd.R_nil _ _ _ _ _|exact Kd.N_nil _ _ _ _ _|exact Kd.V_nil _ _ _ _ _|exact Kd.Q_nil _ _ _ _ _|exact Kd.S_nil _ _ _ _ _,by(with_reducible repeat (first|apply ze|apply zf|apply zg));exact HO1.out,by repeat (first|(with_reducible first|exact HB.out|apply zh|apply zi|apply zj)|exact HB.out),by repeat (first|(with_reducible first|exact HK.out|apply Kept.alloc|apply Kept.drewN|apply Kept.drew)|exact HK.out)⟩
 ·replace c4:=Bool.eq_false_iff.mpr c4;subst c4;have H1:((leatref11_Fire.f k l1 a2).bind fun bt264=>(some (bt264.1,bt264.2)))=some (r1,r2):=by rw[if_neg (show ¬(false=true) by decide)] at H;exact H
  clear H;have H:=H1;clear H1;replace H:=Option.bind_eq_some_iff.mp H;obtain⟨⟨t264,t265⟩,A90,H⟩:=H;replace H:(some (t264,t265))=some (r1,r2):=H;have A9:=zd A90;clear A90;simp only[Option.some.injEq,Prod.mk.injEq] at H;obtain⟨rfl,rfl⟩:=H;obtain⟨Ao10,co10,eo10⟩:=Kd.R_slice HO1.out;subst eo10;go_enter Try.func17,Try.ntmps17;go_wp2_with (first|((with_reducible refine gate_callee (f:=41) rfl ?_);refine goesL_ (some 16) rfl rfl Try.func41 (by kernel_rfl) rfl #[.slice Ao10 l1.length co10,.int .i64 a2] rfl (by(try simp only[List.map_toArray,List.map_cons,List.map_nil]);first|done|rfl|(simp only[List.length_drop,List.length_take];rfl)) ?_;(with_reducible refine(leatref11_Fire.calls k _ _ l1 a2 t264 t265 _ ?side1 ?side2 A9.out).mono ?_);(case side1=>repeat (first|exact(Kd.R_reads' HO1.out).2.2|(with_reducible refine Kd.C_alloc ?_ _)|(with_reducible refine Kd.C_drewN ?_ _)|(with_reducible refine Kd.C_drew ?_)));(case side2=>exact(Kd.R_reads' HO1.out).2.1);rintro e w11 ⟨v266,v268,rfl,ho0,ho1,hb⟩;refine⟨_,rfl,?_⟩;have n0_:=zd (Kd.R_elder' (by(with_reducible repeat (first|apply ze|apply zf|apply zg));exact HO1.out) (Kd.R_base ho1) hb);have n1_:=zd (Kd.R_lower (Kd.R_newM (M:=fun k_=>(P1_ k_∨w.heap.size<=k_)) ho0 (by first|exact HK.out.1|exact(show Kept w _ (fun k_=>P1_ k_) from by repeat (first|(with_reducible first|exact HK.out|apply Kept.alloc|apply Kept.drewN|apply Kept.drew)|exact HK.out)).1) (fun k_ h_=> .inr h_)) (below_size (by repeat (first|(with_reducible first|exact HB.out|apply zh|apply zi|apply zj)|exact HB.out))));have n2_:=zd (Kd.R_lower (Kd.R_new' (Kd.R_newM (M:=fun k_=>(P1_ k_∨w.heap.size<=k_)) ho1 (by first|exact HK.out.1|exact(show Kept w _ (fun k_=>P1_ k_) from by repeat (first|(with_reducible first|exact HK.out|apply Kept.alloc|apply Kept.drewN|apply Kept.drew)|exact HK.out)).1) (fun k_ h_=> .inr h_)) (Kd.R_lt (by(with_reducible repeat (first|apply ze|apply zf|apply zg));exact HO1.out))) (below_size (by repeat (first|(with_reducible first|exact HB.out|apply zh|apply zi|apply zj)|exact HB.out))));have n3_:=zd (Kept.below (S:=(fun k_=>P1_ k_)) (by repeat (first|(with_reducible first|exact HK.out|apply Kept.alloc|apply Kept.drewN|apply Kept.drew)|exact HK.out)) hb);have n4_:=zd (zs (by repeat (first|(with_reducible first|exact HB.out|apply zh|apply zi|apply zj)|exact HB.out)) hb);clear HO1;clear HK;clear HB;have HO1:=n0_;have HO267:=n1_;have HO269:=n2_;have HK:=n3_;have HB:=n4_;clear n0_ n1_ n2_ n3_ n4_;(try clear hb);(try clear hb2);(try clear hk);(try clear hi);(try clear ho0);(try clear ho1)));go_ret2;exact⟨_,_,by first|rfl|(simp[errW_none,errW_some]<;>rfl)|(simp[*,errW_none,errW_some]<;>rfl),by(with_reducible repeat (first|apply ze|apply zf|apply zg));exact zq HO267.out (fun _ hk=>hk.1),by(with_reducible repeat (first|apply ze|apply zf|apply zg));exact zq HO269.out (fun _ hk=>hk.1.1),by repeat (first|(with_reducible first|exact HB.out|apply zh|apply zi|apply zj)|exact HB.out),by repeat (first|(with_reducible first|exact HK.out|apply Kept.alloc|apply Kept.drewN|apply Kept.drew)|exact HK.out)⟩
end Go.Proofs.Ytjegeghigfmkoaa.X
namespace Go.Proofs.Ytjegeghigfmkoaa.X
open Go.RowKit Go.Proofs.YtjegeghigfmkoaaW.PrintWords Go.Proofs.YtjegeghigfmkoaaW.PrintLast Go.Proofs.YtjegeghigfmkoaaW.PrintMore
attribute [local go_sem] max2_int min2_int max_two min_two max_three min_three max_four min_four   -- for this text's walks alone
set_option linter.unusedVariables false
set_option linter.unusedSimpArgs false
def leatlaw12_node.f (a0_0:Int) (a0_1:Int) (a0_2:Int) (a1:Int):Option (Int×List Int×Int×Int×Int×(List (S34))×Int×Int×Int×Int):=if a0_0=0 then(some (6,([]:List Int),0,0,0,([]:List (S34)),a1,0,0,0)) else(some (7,([]:List Int),0,0,0,([]:List (S34)),a1,a0_0,a0_1,a0_2))
set_option maxHeartbeats 8000000 in
set_option maxRecDepth 100000 in
theorem leatlaw12_node.calls (a0_0:Int) (a0_1:Int) (a0_2:Int) (a1:Int) (r1:Int) (r2:List Int) (r3:Int) (r4:Int) (r5:Int) (r6:List (S34)) (r7:Int) (r8:Int) (r9:Int) (r10:Int) (w:World) (h:leatlaw12_node.f a0_0 a0_1 a0_2 a1=some (r1,r2,r3,r4,r5,r6,r7,r8,r9,r10)):
  Calls Try.prog 13 #[.agg #[.int .i64 a0_0,.int .i64 a0_1,.int .i64 a0_2],.int .i64 a1] w fun e w'=> ∃v1_ v5_:Value,e= .returned (.agg #[.int .i64 r1,v1_,.int .i64 r3,.int .i64 r4,.int .i64 r5,v5_,.int .i64 r7,.int .i64 r8,.int .i64 r9,.int .i64 r10])/\Kd.R (Kd.int .i64) 3 w' w.heap.size (fun _=>True) v1_ r2/\Kd.R k34 34 w' w.heap.size (fun _=>True) v5_ r6/\Below w.heap.size w w' :=by
 have hu23:=Try.underlying23;have hu36:=Try.underlying36;have HB:=zd (Below.refl w.heap.size w);have H:(if a0_0=0 then(some (6,([]:List Int),0,0,0,([]:List (S34)),a1,0,0,0)) else(some (7,([]:List Int),0,0,0,([]:List (S34)),a1,a0_0,a0_1,a0_2)))=some (r1,r2,r3,r4,r5,r6,r7,r8,r9,r10):=h;clear h;by_cases c3:a0_0=0
 ·rw[if_pos c3] at H;have c3b0:(a0_0==0)=true:=beq_iff_eq.mpr c3;have c3b1:(a0_0 !=0)=false:=bne_eq_false_iff_eq.mpr c3;clear c3;simp only[Option.some.injEq,Prod.mk.injEq] at H;obtain⟨rfl,rfl,rfl,rfl,rfl,rfl,rfl,rfl,rfl,rfl⟩:=H;go_enter Try.func13,Try.ntmps13;go_wp2_with (first|((with_reducible refine gate_dst (N:=2) rfl ?_);refine box_event ?hg (N:=2) ?hd (cs:= #[.int .i64 a0_0,.int .i64 a0_1,.int .i64 a0_2]) (t:=23) ?hr ?_;(case hd=>rfl);(case hg=>rfl);(case hr=>first|(go_simp;done)|(go_simp;rfl));intro gb158 hg w4 hbox hb;have n0_:=zd (zs (by repeat (first|(with_reducible first|exact HB.out|apply zh|apply zi|apply zj)|exact HB.out)) hb);have n1_:=zd (hbox);have n2_:=zd ((by rw[hg];exact(below_size (by repeat (first|(with_reducible first|exact HB.out|apply zh|apply zi|apply zj)|exact HB.out))):w.heap.size<=gb158));have n3_:=zd ((by rw[hg];exact(below_size (by repeat (first|(with_reducible first|exact HB.out|apply zh|apply zi|apply zj)|exact HB.out))):w.heap.size<=gb158));clear HB;have HB:=n0_;have BK158:=n1_;have GW158:=n2_;have GE158:=n3_;clear n0_ n1_ n2_ n3_;clear hb hbox hg)|((with_reducible refine gate_dst (N:=4) rfl ?_);refine box_event ?hg (N:=4) ?hd (cs:= #[.int .i64 0,.slice none 0 0,.int .i64 0,.int .i64 0,.int .i64 0,.slice none 0 0,.int .i64 0,.int .i64 0,.int .i64 0,.int .i64 0]) (t:=36) ?hr ?_;(case hd=>rfl);(case hg=>rfl);(case hr=>first|(go_simp;done)|(go_simp;rfl));intro gb159 hg w5 hbox hb;have n0_:=zd (zp (g:=gb158) (o:= .cells #[.int .i64 a0_0,.int .i64 a0_1,.int .i64 a0_2] 23 (0,0)) (by(with_reducible repeat (first|refine zk ?_ _|refine zl ?_|refine zm ?_ _));exact BK158.out) hb);have n1_:=zd (zs (by repeat (first|(with_reducible first|exact HB.out|apply zh|apply zi|apply zj|refine zn ?_ GE158.out)|exact HB.out)) hb);have n2_:=zd (hbox);have n3_:=zd ((by rw[hg];exact(below_size (by repeat (first|(with_reducible first|exact HB.out|apply zh|apply zi|apply zj|refine zn ?_ GE158.out)|exact HB.out))):w.heap.size<=gb159));have n4_:=zd ((by rw[hg];exact(below_size (by repeat (first|(with_reducible first|exact HB.out|apply zh|apply zi|apply zj|refine zn ?_ GE158.out)|exact HB.out))):w.heap.size<=gb159));have n5_:=zd ((by rw[hg];exact Nat.ne_of_lt (blk_lt (g:=gb158) (o:= .cells #[.int .i64 a0_0,.int .i64 a0_1,.int .i64 a0_2] 23 (0,0)) (by(with_reducible repeat (first|refine zk ?_ _|refine zl ?_|refine zm ?_ _));exact BK158.out)):gb158≠gb159));have n6_:=zd ((by rw[hg];exact Nat.ne_of_gt (blk_lt (g:=gb158) (o:= .cells #[.int .i64 a0_0,.int .i64 a0_1,.int .i64 a0_2] 23 (0,0)) (by(with_reducible repeat (first|refine zk ?_ _|refine zl ?_|refine zm ?_ _));exact BK158.out)):gb159≠gb158));clear BK158;clear HB;have BK158:=n0_;have HB:=n1_;have BK159:=n2_;have GW159:=n3_;have GE159:=n4_;have NB158_159:=n5_;have NB159_158:=n6_;clear n0_ n1_ n2_ n3_ n4_ n5_ n6_;clear hb hbox hg;have hnb6:=NB158_159.out;have hnc6:=NB159_158.out;have hcz7_0:w5.cell? ⟨gb158,0,none⟩=some (.int .i64 a0_0):=(zo BK158.out 0).trans rfl;have hcz7_1:w5.cell? ⟨gb158,1,none⟩=some (.int .i64 a0_1):=(zo BK158.out 1).trans rfl;have hcz7_2:w5.cell? ⟨gb158,2,none⟩=some (.int .i64 a0_2):=(zo BK158.out 2).trans rfl;have hfz7_0:=blk_frozen BK158.out 0;have hfz7_1:=blk_frozen BK158.out 1;have hfz7_2:=blk_frozen BK158.out 2;have hcz8_0:w5.cell? ⟨gb159,0,none⟩=some (.int .i64 0):=(zo BK159.out 0).trans rfl;have hcz8_1:w5.cell? ⟨gb159,1,none⟩=some (.slice none 0 0):=(zo BK159.out 1).trans rfl;have hcz8_2:w5.cell? ⟨gb159,2,none⟩=some (.int .i64 0):=(zo BK159.out 2).trans rfl;have hcz8_3:w5.cell? ⟨gb159,3,none⟩=some (.int .i64 0):=(zo BK159.out 3).trans rfl;have hcz8_4:w5.cell? ⟨gb159,4,none⟩=some (.int .i64 0):=(zo BK159.out 4).trans rfl;have hcz8_5:w5.cell? ⟨gb159,5,none⟩=some (.slice none 0 0):=(zo BK159.out 5).trans rfl;have hcz8_6:w5.cell? ⟨gb159,6,none⟩=some (.int .i64 0):=(zo BK159.out 6).trans rfl;have hcz8_7:w5.cell? ⟨gb159,7,none⟩=some (.int .i64 0):=(zo BK159.out 7).trans rfl;have hcz8_8:w5.cell? ⟨gb159,8,none⟩=some (.int .i64 0):=(zo BK159.out 8).trans rfl;have hcz8_9:w5.cell? ⟨gb159,9,none⟩=some (.int .i64 0):=(zo BK159.out 9).trans rfl;have hfz8_0:=blk_frozen BK159.out 0;have hfz8_1:=blk_frozen BK159.out 1;have hfz8_2:=blk_frozen BK159.out 2;have hfz8_3:=blk_frozen BK159.out 3;have hfz8_4:=blk_frozen BK159.out 4;have hfz8_5:=blk_frozen BK159.out 5;have hfz8_6:=blk_frozen BK159.out 6;have hfz8_7:=blk_frozen BK159.out 7;have hfz8_8:=blk_frozen BK159.out 8;have hfz8_9:=blk_frozen BK159.out 9))
  refine bodyPost_ret (results_cell_row rfl _ _ gb159 36 #[.int .i64 6,.slice none 0 0,.int .i64 0,.int .i64 0,.int .i64 0,.slice none 0 0,.int .i64 a1,.int .i64 0,.int .i64 0,.int .i64 0] (0,0) _ rfl (by(with_reducible repeat (first|refine zk ?_ _|refine zl ?_|refine zm ?_ _));refine blk_put (cs:= #[.int .i64 6,.slice none 0 0,.int .i64 0,.int .i64 0,.int .i64 0,.slice none 0 0,.int .i64 a1,.int .i64 0,.int .i64 0,.int .i64 0]) ?_ 9 _ rfl;(with_reducible repeat (first|refine zk ?_ _|refine zl ?_|refine zm ?_ _));refine blk_put (cs:= #[.int .i64 6,.slice none 0 0,.int .i64 0,.int .i64 0,.int .i64 0,.slice none 0 0,.int .i64 a1,.int .i64 0,.int .i64 0,.int .i64 0]) ?_ 8 _ rfl;(with_reducible repeat (first|refine zk ?_ _|refine zl ?_|refine zm ?_ _));refine blk_put (cs:= #[.int .i64 6,.slice none 0 0,.int .i64 0,.int .i64 0,.int .i64 0,.slice none 0 0,.int .i64 a1,.int .i64 0,.int .i64 0,.int .i64 0]) ?_ 7 _ rfl;(with_reducible repeat (first|refine zk ?_ _|refine zl ?_|refine zm ?_ _));refine blk_put (cs:= #[.int .i64 6,.slice none 0 0,.int .i64 0,.int .i64 0,.int .i64 0,.slice none 0 0,.int .i64 0,.int .i64 0,.int .i64 0,.int .i64 0]) ?_ 6 _ rfl;(with_reducible repeat (first|refine zk ?_ _|refine zl ?_|refine zm ?_ _));refine blk_put (cs:= #[.int .i64 6,.slice none 0 0,.int .i64 0,.int .i64 0,.int .i64 0,.slice none 0 0,.int .i64 0,.int .i64 0,.int .i64 0,.int .i64 0]) ?_ 5 _ rfl;(with_reducible repeat (first|refine zk ?_ _|refine zl ?_|refine zm ?_ _));refine blk_put (cs:= #[.int .i64 6,.slice none 0 0,.int .i64 0,.int .i64 0,.int .i64 0,.slice none 0 0,.int .i64 0,.int .i64 0,.int .i64 0,.int .i64 0]) ?_ 4 _ rfl;(with_reducible repeat (first|refine zk ?_ _|refine zl ?_|refine zm ?_ _));refine blk_put (cs:= #[.int .i64 6,.slice none 0 0,.int .i64 0,.int .i64 0,.int .i64 0,.slice none 0 0,.int .i64 0,.int .i64 0,.int .i64 0,.int .i64 0]) ?_ 3 _ rfl;(with_reducible repeat (first|refine zk ?_ _|refine zl ?_|refine zm ?_ _));refine blk_put (cs:= #[.int .i64 6,.slice none 0 0,.int .i64 0,.int .i64 0,.int .i64 0,.slice none 0 0,.int .i64 0,.int .i64 0,.int .i64 0,.int .i64 0]) ?_ 2 _ rfl;(with_reducible repeat (first|refine zk ?_ _|refine zl ?_|refine zm ?_ _));refine blk_put (cs:= #[.int .i64 6,.slice none 0 0,.int .i64 0,.int .i64 0,.int .i64 0,.slice none 0 0,.int .i64 0,.int .i64 0,.int .i64 0,.int .i64 0]) ?_ 1 _ rfl;(with_reducible repeat (first|refine zk ?_ _|refine zl ?_|refine zm ?_ _));refine blk_put (cs:= #[.int .i64 0,.slice none 0 0,.int .i64 0,.int .i64 0,.int .i64 0,.slice none 0 0,.int .i64 0,.int .i64 0,.int .i64 0,.int .i64 0]) ?_ 0 _ rfl;(with_reducible repeat (first|refine zk ?_ _|refine zl ?_|refine zm ?_ _));exact BK159.out) Try.underlying36 rfl (by kernel_rfl)) rfl ?_;exact⟨_,_,by first|rfl|(simp[errW_none,errW_some]<;>rfl)|(simp[*,errW_none,errW_some]<;>rfl),by first|exact Kd.R_nil _ _ _ _ _|exact Kd.N_nil _ _ _ _ _|exact Kd.V_nil _ _ _ _ _|exact Kd.Q_nil _ _ _ _ _|exact Kd.S_nil _ _ _ _ _,by first|exact Kd.R_nil _ _ _ _ _|exact Kd.N_nil _ _ _ _ _|exact Kd.V_nil _ _ _ _ _|exact Kd.Q_nil _ _ _ _ _|exact Kd.S_nil _ _ _ _ _,by repeat (first|(with_reducible first|exact HB.out|apply zh|apply zi|apply zj|refine zn ?_ GE158.out|refine zn ?_ GE159.out)|exact HB.out)⟩
 ·rw[if_neg c3] at H;have c3b0:(a0_0==0)=false:=beq_eq_false_iff_ne.mpr c3;have c3b1:(a0_0 !=0)=true:=bne_iff_ne.mpr c3;simp only[Option.some.injEq,Prod.mk.injEq] at H;obtain⟨rfl,rfl,rfl,rfl,rfl,rfl,rfl,rfl,rfl,rfl⟩:=H;go_enter Try.func13,Try.ntmps13;go_wp2_with (first|((with_reducible refine gate_dst (N:=2) rfl ?_);refine box_event ?hg (N:=2) ?hd (cs:= #[.int .i64 a0_0,.int .i64 a0_1,.int .i64 a0_2]) (t:=23) ?hr ?_;(case hd=>rfl);(case hg=>rfl);(case hr=>first|(go_simp;done)|(go_simp;rfl));intro gb158 hg w9 hbox hb;have n0_:=zd (zs (by repeat (first|(with_reducible first|exact HB.out|apply zh|apply zi|apply zj)|exact HB.out)) hb);have n1_:=zd (hbox);have n2_:=zd ((by rw[hg];exact(below_size (by repeat (first|(with_reducible first|exact HB.out|apply zh|apply zi|apply zj)|exact HB.out))):w.heap.size<=gb158));have n3_:=zd ((by rw[hg];exact(below_size (by repeat (first|(with_reducible first|exact HB.out|apply zh|apply zi|apply zj)|exact HB.out))):w.heap.size<=gb158));clear HB;have HB:=n0_;have BK158:=n1_;have GW158:=n2_;have GE158:=n3_;clear n0_ n1_ n2_ n3_;clear hb hbox hg)|((with_reducible refine gate_dst (N:=4) rfl ?_);refine box_event ?hg (N:=4) ?hd (cs:= #[.int .i64 0,.slice none 0 0,.int .i64 0,.int .i64 0,.int .i64 0,.slice none 0 0,.int .i64 0,.int .i64 0,.int .i64 0,.int .i64 0]) (t:=36) ?hr ?_;(case hd=>rfl);(case hg=>rfl);(case hr=>first|(go_simp;done)|(go_simp;rfl));intro gb159 hg w10 hbox hb;have n0_:=zd (zp (g:=gb158) (o:= .cells #[.int .i64 a0_0,.int .i64 a0_1,.int .i64 a0_2] 23 (0,0)) (by(with_reducible repeat (first|refine zk ?_ _|refine zl ?_|refine zm ?_ _));exact BK158.out) hb);have n1_:=zd (zs (by repeat (first|(with_reducible first|exact HB.out|apply zh|apply zi|apply zj|refine zn ?_ GE158.out)|exact HB.out)) hb);have n2_:=zd (hbox);have n3_:=zd ((by rw[hg];exact(below_size (by repeat (first|(with_reducible first|exact HB.out|apply zh|apply zi|apply zj|refine zn ?_ GE158.out)|exact HB.out))):w.heap.size<=gb159));have n4_:=zd ((by rw[hg];exact(below_size (by repeat (first|(with_reducible first|exact HB.out|apply zh|apply zi|apply zj|refine zn ?_ GE158.out)|exact HB.out))):w.heap.size<=gb159));have n5_:=zd ((by rw[hg];exact Nat.ne_of_lt (blk_lt (g:=gb158) (o:= .cells #[.int .i64 a0_0,.int .i64 a0_1,.int .i64 a0_2] 23 (0,0)) (by(with_reducible repeat (first|refine zk ?_ _|refine zl ?_|refine zm ?_ _));exact BK158.out)):gb158≠gb159));have n6_:=zd ((by rw[hg];exact Nat.ne_of_gt (blk_lt (g:=gb158) (o:= .cells #[.int .i64 a0_0,.int .i64 a0_1,.int .i64 a0_2] 23 (0,0)) (by(with_reducible repeat (first|refine zk ?_ _|refine zl ?_|refine zm ?_ _));exact BK158.out)):gb159≠gb158));clear BK158;clear HB;have BK158:=n0_;have HB:=n1_;have BK159:=n2_;have GW159:=n3_;have GE159:=n4_;have NB158_159:=n5_;have NB159_158:=n6_;clear n0_ n1_ n2_ n3_ n4_ n5_ n6_;clear hb hbox hg;have hnb11:=NB158_159.out;have hnc11:=NB159_158.out;have hcz12_0:w10.cell? ⟨gb158,0,none⟩=some (.int .i64 a0_0):=(zo BK158.out 0).trans rfl;have hcz12_1:w10.cell? ⟨gb158,1,none⟩=some (.int .i64 a0_1):=(zo BK158.out 1).trans rfl;have hcz12_2:w10.cell? ⟨gb158,2,none⟩=some (.int .i64 a0_2):=(zo BK158.out 2).trans rfl;have hfz12_0:=blk_frozen BK158.out 0;have hfz12_1:=blk_frozen BK158.out 1;have hfz12_2:=blk_frozen BK158.out 2;have hcz13_0:w10.cell? ⟨gb159,0,none⟩=some (.int .i64 0):=(zo BK159.out 0).trans rfl;have hcz13_1:w10.cell? ⟨gb159,1,none⟩=some (.slice none 0 0):=(zo BK159.out 1).trans rfl;have hcz13_2:w10.cell? ⟨gb159,2,none⟩=some (.int .i64 0):=(zo BK159.out 2).trans rfl;have hcz13_3:w10.cell? ⟨gb159,3,none⟩=some (.int .i64 0):=(zo BK159.out 3).trans rfl;have hcz13_4:w10.cell? ⟨gb159,4,none⟩=some (.int .i64 0):=(zo BK159.out 4).trans rfl;have hcz13_5:w10.cell? ⟨gb159,5,none⟩=some (.slice none 0 0):=(zo BK159.out 5).trans rfl;have hcz13_6:w10.cell? ⟨gb159,6,none⟩=some (.int .i64 0):=(zo BK159.out 6).trans rfl;have hcz13_7:w10.cell? ⟨gb159,7,none⟩=some (.int .i64 0):=(zo BK159.out 7).trans rfl;have hcz13_8:w10.cell? ⟨gb159,8,none⟩=some (.int .i64 0):=(zo BK159.out 8).trans rfl;have hcz13_9:w10.cell? ⟨gb159,9,none⟩=some (.int .i64 0):=(zo BK159.out 9).trans rfl;have hfz13_0:=blk_frozen BK159.out 0;have hfz13_1:=blk_frozen BK159.out 1;have hfz13_2:=blk_frozen BK159.out 2;have hfz13_3:=blk_frozen BK159.out 3;have hfz13_4:=blk_frozen BK159.out 4;have hfz13_5:=blk_frozen BK159.out 5;have hfz13_6:=blk_frozen BK159.out 6;have hfz13_7:=blk_frozen BK159.out 7;have hfz13_8:=blk_frozen BK159.out 8;have hfz13_9:=blk_frozen BK159.out 9))
  refine bodyPost_ret (results_cell_row rfl _ _ gb159 36 #[.int .i64 7,.slice none 0 0,.int .i64 0,.int .i64 0,.int .i64 0,.slice none 0 0,.int .i64 a1,.int .i64 a0_0,.int .i64 a0_1,.int .i64 a0_2] (0,0) _ rfl (by(with_reducible repeat (first|refine zk ?_ _|refine zl ?_|refine zm ?_ _));refine blk_put (cs:= #[.int .i64 7,.slice none 0 0,.int .i64 0,.int .i64 0,.int .i64 0,.slice none 0 0,.int .i64 a1,.int .i64 a0_0,.int .i64 a0_1,.int .i64 0]) ?_ 9 _ rfl;(with_reducible repeat (first|refine zk ?_ _|refine zl ?_|refine zm ?_ _));refine blk_put (cs:= #[.int .i64 7,.slice none 0 0,.int .i64 0,.int .i64 0,.int .i64 0,.slice none 0 0,.int .i64 a1,.int .i64 a0_0,.int .i64 0,.int .i64 0]) ?_ 8 _ rfl;(with_reducible repeat (first|refine zk ?_ _|refine zl ?_|refine zm ?_ _));refine blk_put (cs:= #[.int .i64 7,.slice none 0 0,.int .i64 0,.int .i64 0,.int .i64 0,.slice none 0 0,.int .i64 a1,.int .i64 0,.int .i64 0,.int .i64 0]) ?_ 7 _ rfl;(with_reducible repeat (first|refine zk ?_ _|refine zl ?_|refine zm ?_ _));refine blk_put (cs:= #[.int .i64 7,.slice none 0 0,.int .i64 0,.int .i64 0,.int .i64 0,.slice none 0 0,.int .i64 0,.int .i64 0,.int .i64 0,.int .i64 0]) ?_ 6 _ rfl;(with_reducible repeat (first|refine zk ?_ _|refine zl ?_|refine zm ?_ _));refine blk_put (cs:= #[.int .i64 7,.slice none 0 0,.int .i64 0,.int .i64 0,.int .i64 0,.slice none 0 0,.int .i64 0,.int .i64 0,.int .i64 0,.int .i64 0]) ?_ 5 _ rfl;(with_reducible repeat (first|refine zk ?_ _|refine zl ?_|refine zm ?_ _));refine blk_put (cs:= #[.int .i64 7,.slice none 0 0,.int .i64 0,.int .i64 0,.int .i64 0,.slice none 0 0,.int .i64 0,.int .i64 0,.int .i64 0,.int .i64 0]) ?_ 4 _ rfl;(with_reducible repeat (first|refine zk ?_ _|refine zl ?_|refine zm ?_ _));refine blk_put (cs:= #[.int .i64 7,.slice none 0 0,.int .i64 0,.int .i64 0,.int .i64 0,.slice none 0 0,.int .i64 0,.int .i64 0,.int .i64 0,.int .i64 0]) ?_ 3 _ rfl;(with_reducible repeat (first|refine zk ?_ _|refine zl ?_|refine zm ?_ _));refine blk_put (cs:= #[.int .i64 7,.slice none 0 0,.int .i64 0,.int .i64 0,.int .i64 0,.slice none 0 0,.int .i64 0,.int .i64 0,.int .i64 0,.int .i64 0]) ?_ 2 _ rfl;(with_reducible repeat (first|refine zk ?_ _|refine zl ?_|refine zm ?_ _));refine blk_put (cs:= #[.int .i64 7,.slice none 0 0,.int .i64 0,.int .i64 0,.int .i64 0,.slice none 0 0,.int .i64 0,.int .i64 0,.int .i64 0,.int .i64 0]) ?_ 1 _ rfl;(with_reducible repeat (first|refine zk ?_ _|refine zl ?_|refine zm ?_ _));refine blk_put (cs:= #[.int .i64 0,.slice none 0 0,.int .i64 0,.int .i64 0,.int .i64 0,.slice none 0 0,.int .i64 0,.int .i64 0,.int .i64 0,.int .i64 0]) ?_ 0 _ rfl;(with_reducible repeat (first|refine zk ?_ _|refine zl ?_|refine zm ?_ _));exact BK159.out) Try.underlying36 rfl (by kernel_rfl)) rfl ?_;exact⟨_,_,by first|rfl|(simp[errW_none,errW_some]<;>rfl)|(simp[*,errW_none,errW_some]<;>rfl),by first|exact Kd.R_nil _ _ _ _ _|exact Kd.N_nil _ _ _ _ _|exact Kd.V_nil _ _ _ _ _|exact Kd.Q_nil _ _ _ _ _|exact Kd.S_nil _ _ _ _ _,by first|exact Kd.R_nil _ _ _ _ _|exact Kd.N_nil _ _ _ _ _|exact Kd.V_nil _ _ _ _ _|exact Kd.Q_nil _ _ _ _ _|exact Kd.S_nil _ _ _ _ _,by repeat (first|(with_reducible first|exact HB.out|apply zh|apply zi|apply zj|refine zn ?_ GE158.out|refine zn ?_ GE159.out)|exact HB.out)⟩
end Go.Proofs.Ytjegeghigfmkoaa.X
