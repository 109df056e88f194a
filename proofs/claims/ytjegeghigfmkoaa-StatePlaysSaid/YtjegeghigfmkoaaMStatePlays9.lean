/- Lemmas towards the laws of the aggregates: contracts of the Go functions of package agg, and the plain arithmetic beneath. No conditions. -/
import Derived.Test.YtjegeghigfmkoaaMStatePlays8
import Derived.Test.YtjegeghigfmkoaaMStatePlays2
namespace Go.Proofs.Ytjegeghigfmkoaa
open Go.RowKit Go.Proofs.YtjegeghigfmkoaaW.PrintWords
set_option maxRecDepth 100000
set_option linter.unusedVariables false
set_option linter.unusedSimpArgs false
section
variable {α β:Type}
theorem ev_now {r r' :α} (h:r'=r):Ev (fun _=>some r') r:=h▸Ev.now _
end
def I64 (x:Int):Prop:= -9223372036854775808≤x∧x≤9223372036854775807
theorem i64_wf {x:Int} (h:(Lit.int .i64 x).wf=true):I64 x:=by
 simp only[Lit.wf,IntKind.min,IntKind.max,IntKind.signed,IntKind.bits,Bool.and_eq_true,decide_eq_true_eq,if_true] at h;unfold I64;omega
theorem wrap_in {x:Int} (h:I64 x):wrap64 x=x:=by unfold I64 at h;unfold wrap64;omega
theorem in_wrap (x:Int):I64 (wrap64 x):=by unfold I64 wrap64;omega
def bv (x:Int):BitVec 64:=BitVec.ofInt 64 x
theorem bits_xor (x y:Int):bits .xor .i64 x y=(bv x ^^^ bv y).toInt:=by
 have h: ∀b:BitVec 64,IntKind.wrap .i64 b.toNat=b.toInt:=by
  intro b;have:=b.isLt;rw[BitVec.toInt_eq_toNat_cond];have hm:((b.toNat:Int)) % 2 ^ 64=b.toNat:=by omega
  simp only[IntKind.wrap,IntKind.bits,IntKind.signed,hm,Bool.true_and,decide_eq_true_eq,ge_iff_le];by_cases hc:2*b.toNat<2 ^ 64
  ·rw[if_neg (by omega),if_pos hc]
  ·rw[if_pos (by omega),if_neg hc];omega
 exact h _
theorem bv_toInt (b:BitVec 64):bv b.toInt=b:=by simp[bv]
theorem toInt_bv {x:Int} (h:I64 x):(bv x).toInt=x:=by
 unfold I64 at h;simp only[bv,BitVec.toInt_ofInt];rw[Int.bmod_def];simp;omega
theorem in_toInt (b:BitVec 64):I64 b.toInt:=by
 have h1:=BitVec.toInt_lt (x:=b);have h2:=BitVec.le_toInt (x:=b);unfold I64;simp at h1 h2;omega
theorem both_comm (a x y:Int):aggBoth a x y=aggBoth a y x:=by
 unfold aggBoth;split
 ·rw[Int.add_comm]
 ·split
  ·omega
  ·split
   ·omega
   ·split
    ·rw[bits_xor,bits_xor,BitVec.xor_comm]
    ·rfl
theorem both_assoc (a x y z:Int):aggBoth a (aggBoth a x y) z=aggBoth a x (aggBoth a y z):=by
 unfold aggBoth;split
 ·unfold wrap64;omega
 ·split
  ·omega
  ·split
   ·omega
   ·split
    ·simp only[bits_xor,bv_toInt,BitVec.xor_assoc]
    ·rfl
theorem both_in (a:Int) {x y:Int} (hx:I64 x) (hy:I64 y):I64 (aggBoth a x y):=by
 unfold aggBoth;split
 ·exact in_wrap _
 ·unfold I64 at*
  split
  ·omega
  ·split
   ·omega
   ·split
    ·have:=in_toInt (bv x ^^^ bv y);rw[bits_xor];exact this
    ·omega
theorem zero_in (a:Int):I64 (aggZero a):=by unfold aggZero I64;split<;>(try split)<;>omega
theorem both_zero {a x:Int} (ha:aggOk a=true) (hx:I64 x):aggBoth a x (aggZero a)=x:=by
 have ha' :1≤a∧a≤5:=by simpa[aggOk] using ha
 unfold aggBoth aggZero;split
 ·rw[if_neg (by omega),if_neg (by omega),Int.add_zero,wrap_in hx]
 ·unfold I64 at hx;split
  ·omega
  ·rename_i h3;split
   ·omega
   ·rename_i h4;rw[if_pos (by omega)];have h0:bv 0=0#64:=rfl;rw[bits_xor,h0,BitVec.xor_zero,toInt_bv hx]
def aggAll (a:Int) (l:List Int):Int:=l.foldl (aggAdd a) (aggZero a)
theorem val_in (a:Int) {x:Int} (hx:I64 x):I64 (aggVal a x):=by unfold aggVal;split;unfold I64;omega;exact hx
theorem add_eq {a:Int} (ha:aggOk a=true) (x y:Int):aggAdd a x y=aggBoth a x (aggVal a y):=by unfold aggAdd;rw[if_pos ha]
theorem fold_in {a:Int} (ha:aggOk a=true): ∀(l:List Int) (z:Int),I64 z→(∀x ∈ l,I64 x)→I64 (l.foldl (aggAdd a) z)
 |[],z,hz,_=>hz
 |x::l,z,hz,hl=>fold_in ha l _ (by rw[add_eq ha];exact both_in a hz (val_in a (hl x (by simp)))) (fun y hy=>hl y (by simp[hy]))
theorem all_in {a:Int} (ha:aggOk a=true) {l:List Int} (hl: ∀x ∈ l,I64 x):I64 (aggAll a l):=fold_in ha l _ (zero_in a) hl
theorem fold_both {a:Int} (ha:aggOk a=true): ∀(l:List Int) (u z:Int),l.foldl (aggAdd a) (aggBoth a u z)=aggBoth a u (l.foldl (aggAdd a) z)
 |[],u,z=>rfl
 |x::l,u,z=>by
  simp only[List.foldl_cons];rw[show aggAdd a (aggBoth a u z) x=aggBoth a u (aggAdd a z x) from by rw[add_eq ha,add_eq ha,both_assoc]];exact fold_both ha l u _
theorem all_append {a:Int} (ha:aggOk a=true) {l m:List Int} (hm: ∀x ∈ m,I64 x):aggAll a (m++l)=aggBoth a (aggAll a m) (aggAll a l):=by
 unfold aggAll;rw[List.foldl_append]
 conv=>lhs;rw[←both_zero ha (fold_in ha m _ (zero_in a) hm)]
 exact fold_both ha l _ _
end Go.Proofs.Ytjegeghigfmkoaa
