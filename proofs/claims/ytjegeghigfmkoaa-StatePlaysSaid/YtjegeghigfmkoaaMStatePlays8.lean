/- Lemmas towards the laws of the aggregates: contracts of the Go functions of package agg, and the plain arithmetic beneath. No conditions. -/
import Derived.Test.YtjegeghigfmkoaaProg
import Derived.WalkKit
import Derived.BigQuiet
import Derived.Deep.QuietTactic
import Derived.Deep.RegionWith
import Derived.Lib.Hide
import Derived.WalkLawsBesides
import Derived.Laws.EntriesVeiled
namespace Go.Proofs.Ytjegeghigfmkoaa
open Go.RowKit
set_option maxRecDepth 100000
set_option linter.unusedVariables false
set_option linter.unusedSimpArgs false
def aggOk (a:Int):Bool:=decide (1≤a∧a≤5)
def aggZero (a:Int):Int:=if a=3 then 9223372036854775807 else if a=4 then -9223372036854775808 else 0
def aggBoth (a x y:Int):Int:=
 if a=1∨a=2 then wrap64 (x+y) else if a=3 then min x y else if a=4 then max x y else if a=5 then bits .xor .i64 x y else 0
def aggVal (a x:Int):Int:=if a=2 then 1 else x
def aggAdd (a x y:Int):Int:=if aggOk a then aggBoth a x (aggVal a y) else 0
def aggMerge (a x y:Int):Int:=if aggOk a then aggBoth a x y else 0
def fVal (a:Int):Value:=if a=2 then .func (.func 85) #[] #[] else if aggOk a then .func (.func 84) #[] #[] else .nilFunc
def fBoth (a:Int):Value:=if a=1∨a=2 then .func (.func 83) #[] #[] else if a=3 then .func (.func 86) #[] #[] else if a=4 then .func (.func 87) #[] #[] else if a=5 then .func (.func 88) #[] #[] else .nilFunc
def OfIs (a:Int) (w:World) (e:Ending) (w' :World):Prop:=e= .returned (.tuple #[.agg #[.int .i64 (aggZero a),fVal a,fBoth a],.bool (aggOk a)])∧Below w.heap.size w w'
theorem agg_cases (a:Int):a=1∨a=2∨a=3∨a=4∨a=5∨(a<1∨5<a):=by omega
theorem ok_no {a:Int} (h:a<1∨5<a):aggOk a=false:=by simp[aggOk];omega
theorem zero_no {a:Int} (h:a<1∨5<a):aggZero a=0:=by unfold aggZero;rw[if_neg (by omega),if_neg (by omega)]
theorem fVal_no {a:Int} (h:a<1∨5<a):fVal a= .nilFunc:=by unfold fVal;rw[if_neg (by omega),ok_no h];rfl
theorem fBoth_no {a:Int} (h:a<1∨5<a):fBoth a= .nilFunc:=by unfold fBoth;rw[if_neg (by omega),if_neg (by omega),if_neg (by omega),if_neg (by omega)]
set_option maxHeartbeats 1000000 in
theorem of_any (a:Int) (w:World):Calls Try.prog 71 #[.int .i64 a] w (OfIs a w):=by
 rcases agg_cases a with rfl|rfl|rfl|rfl|rfl|h
 all_goals
  go_enter Try.func71,Try.ntmps71;go_wp2
 ·exact bodyPost_ret (v:= .tuple #[.agg #[.int .i64 0,.func (.func 84) #[] #[],.func (.func 83) #[] #[]],.bool true]) (by simp[results,Try.results71,go_sem]) rfl ⟨rfl,(Below.refl _ _).alloc (Nat.le_refl _) _⟩
 ·exact bodyPost_ret (v:= .tuple #[.agg #[.int .i64 0,.func (.func 85) #[] #[],.func (.func 83) #[] #[]],.bool true]) (by simp[results,Try.results71,go_sem]) rfl ⟨rfl,(Below.refl _ _).alloc (Nat.le_refl _) _⟩
 ·exact bodyPost_ret (v:= .tuple #[.agg #[.int .i64 9223372036854775807,.func (.func 84) #[] #[],.func (.func 86) #[] #[]],.bool true]) (by simp[results,Try.results71,go_sem]) rfl ⟨rfl,(Below.refl _ _).alloc (Nat.le_refl _) _⟩
 ·exact bodyPost_ret (v:= .tuple #[.agg #[.int .i64 (-9223372036854775808),.func (.func 84) #[] #[],.func (.func 87) #[] #[]],.bool true]) (by simp[results,Try.results71,go_sem]) rfl ⟨rfl,(Below.refl _ _).alloc (Nat.le_refl _) _⟩
 ·exact bodyPost_ret (v:= .tuple #[.agg #[.int .i64 0,.func (.func 84) #[] #[],.func (.func 88) #[] #[]],.bool true]) (by simp[results,Try.results71,go_sem]) rfl ⟨rfl,(Below.refl _ _).alloc (Nat.le_refl _) _⟩
 ·refine bodyPost_ret (v:= .tuple #[.agg #[.int .i64 0,.nilFunc,.nilFunc],.bool false]) (by simp[results,Try.results71,go_sem]) rfl ⟨by rw[ok_no h,zero_no h,fVal_no h,fBoth_no h],(Below.refl _ _).alloc (Nat.le_refl _) _⟩
theorem same_any (x:Int) (w:World):Calls Try.prog 84 #[.int .i64 x] w fun e w'=>e= .returned (.int .i64 x)∧w=w' :=by
 go_enter Try.func84,Try.ntmps84;go_wp2;go_ret;exact⟨rfl,rfl⟩
theorem one_any (x:Int) (w:World):Calls Try.prog 85 #[.int .i64 x] w fun e w'=>e= .returned (.int .i64 1)∧w=w' :=by
 go_enter Try.func85,Try.ntmps85;go_wp2;go_ret;exact⟨rfl,rfl⟩
theorem sum_any (x y:Int) (w:World):Calls Try.prog 83 #[.int .i64 x,.int .i64 y] w fun e w'=>e= .returned (.int .i64 (wrap64 (x+y)))∧w=w' :=by
 go_enter Try.func83,Try.ntmps83;go_wp2;go_ret;exact⟨rfl,rfl⟩
theorem min_any (x y:Int) (w:World):Calls Try.prog 86 #[.int .i64 x,.int .i64 y] w fun e w'=>e= .returned (.int .i64 (min x y))∧w=w' :=by
 go_enter Try.func86,Try.ntmps86;go_wp2
 all_goals (go_ret;exact⟨congrArg (fun n=>Ending.returned (.int .i64 n)) (by omega),rfl⟩)
theorem max_any (x y:Int) (w:World):Calls Try.prog 87 #[.int .i64 x,.int .i64 y] w fun e w'=>e= .returned (.int .i64 (max x y))∧w=w' :=by
 go_enter Try.func87,Try.ntmps87;go_wp2
 all_goals (go_ret;exact⟨congrArg (fun n=>Ending.returned (.int .i64 n)) (by omega),rfl⟩)
theorem xor_any (x y:Int) (w:World):Calls Try.prog 88 #[.int .i64 x,.int .i64 y] w fun e w'=>e= .returned (.int .i64 (bits .xor .i64 x y))∧w=w' :=by
 go_enter Try.func88,Try.ntmps88;go_wp2;go_ret;exact⟨rfl,rfl⟩
end Go.Proofs.Ytjegeghigfmkoaa
namespace Go.Proofs.Ytjegeghigfmkoaa
open Go.RowKit
set_option linter.unusedVariables false
set_option linter.unusedSimpArgs false
theorem fVal_cases (a:Int):fVal a= .func (.func 85) #[] #[]∨fVal a= .func (.func 84) #[] #[]∨fVal a= .nilFunc:=by
 unfold fVal;split
 ·exact .inl rfl
 ·split
  ·exact .inr (.inl rfl)
  ·exact .inr (.inr rfl)
theorem fBoth_cases (a:Int):(∃k,fBoth a= .func (.func k) #[] #[])∨fBoth a= .nilFunc:=by
 unfold fBoth;split
 ·exact .inl ⟨_,rfl⟩
 ·split
  ·exact .inl ⟨_,rfl⟩
  ·split
   ·exact .inl ⟨_,rfl⟩
   ·split
    ·exact .inl ⟨_,rfl⟩
    ·exact .inr rfl
theorem run_store_fVal {P:Program} {w:World} {ad:Addr} {m:Mode} (a:Int):(store ad (fVal a) m).run P w=stored P w ad (fVal a) m:=by
 rcases fVal_cases a with h|h|h<;>rw[h]
 ·exact run_store_func P w ad m _ _ _
 ·exact run_store_func P w ad m _ _ _
 ·exact run_store_nilFunc P w ad m
theorem run_store_fBoth {P:Program} {w:World} {ad:Addr} {m:Mode} (a:Int):(store ad (fBoth a) m).run P w=stored P w ad (fBoth a) m:=by
 rcases fBoth_cases a with ⟨k,h⟩|h<;>rw[h]
 ·exact run_store_func P w ad m _ _ _
 ·exact run_store_nilFunc P w ad m
attribute [local go_sem] run_store_fVal run_store_fBoth
theorem zero_any (a:Int) (w:World):Calls Try.prog 60 #[.int .i64 a] w fun e w'=>e= .returned (.int .i64 (aggZero a))∧Below w.heap.size w w' :=by
 go_enter Try.func60,Try.ntmps60;go_wp2_with (go_at_call 71;refine(of_any _ _).mono ?_;rintro e w1 ⟨rfl,hb⟩);go_ret;exact⟨rfl,hb.alloc hb.size _⟩
theorem quiet_same {P:Program} {f:FuncId} {args:Array Value} {w:World} {n:Nat} {v:Value}
  (h:Calls P f args (w.drewN n) fun e w'=>e= .returned v∧w.drewN n=w'):Calls P f args (w.drewN n) fun e w''=>e= .returned v∧ ∃m,w''=w.drewN m:=
 h.mono fun _ _ ⟨he,hm⟩=>⟨he,n,hm.symm⟩
theorem below_drewN {B:Nat} {w W:World} (h:Below B w W) (n:Nat):Below B w (W.drewN n):=⟨h.os,h.tape,h.output,h.size,h.block⟩
set_option maxHeartbeats 4000000 in
theorem add_any (a x y:Int) (w:World):Calls Try.prog 61 #[.int .i64 a,.int .i64 x,.int .i64 y] w fun e w'=>e= .returned (.int .i64 (aggAdd a x y))∧Below w.heap.size w w' :=by
 rcases agg_cases a with rfl|rfl|rfl|rfl|rfl|h
 case inr.inr.inr.inr.inr=>
  have h1:=ok_no h;go_enter Try.func61,Try.ntmps61;go_wp2_with (go_at_call 71;refine(of_any _ _).mono ?_;rintro e w1 ⟨rfl,hb⟩);go_ret;exact⟨by rw[aggAdd,h1];rfl,hb.alloc hb.size _⟩
 case inl=>
  have h1:aggOk 1=true:=rfl;have h2:fVal 1= .func (.func 84) #[] #[]:=rfl;have h3:fBoth 1= .func (.func 83) #[] #[]:=rfl;go_enter Try.func61,Try.ntmps61;go_wp2_with (go_at_call 71;refine(of_any _ _).mono ?_;rintro e w1 ⟨rfl,hb⟩);go_quiet (first|(go_at_call 84;exact quiet_same (same_any _ _))|(go_at_call 85;exact quiet_same (one_any _ _))|(go_at_call 83;exact quiet_same (sum_any _ _ _))|(go_at_call 86;exact quiet_same (min_any _ _ _))|(go_at_call 87;exact quiet_same (max_any _ _ _))|(go_at_call 88;exact quiet_same (xor_any _ _ _)));go_wp2;go_ret;exact⟨rfl,below_drewN (hb.alloc hb.size _) _⟩
 case inr.inl=>
  have h1:aggOk 2=true:=rfl;have h2:fVal 2= .func (.func 85) #[] #[]:=rfl;have h3:fBoth 2= .func (.func 83) #[] #[]:=rfl;go_enter Try.func61,Try.ntmps61;go_wp2_with (go_at_call 71;refine(of_any _ _).mono ?_;rintro e w1 ⟨rfl,hb⟩);go_quiet (first|(go_at_call 84;exact quiet_same (same_any _ _))|(go_at_call 85;exact quiet_same (one_any _ _))|(go_at_call 83;exact quiet_same (sum_any _ _ _))|(go_at_call 86;exact quiet_same (min_any _ _ _))|(go_at_call 87;exact quiet_same (max_any _ _ _))|(go_at_call 88;exact quiet_same (xor_any _ _ _)));go_wp2;go_ret;exact⟨rfl,below_drewN (hb.alloc hb.size _) _⟩
 case inr.inr.inl=>
  have h1:aggOk 3=true:=rfl;have h2:fVal 3= .func (.func 84) #[] #[]:=rfl;have h3:fBoth 3= .func (.func 86) #[] #[]:=rfl;go_enter Try.func61,Try.ntmps61;go_wp2_with (go_at_call 71;refine(of_any _ _).mono ?_;rintro e w1 ⟨rfl,hb⟩);go_quiet (first|(go_at_call 84;exact quiet_same (same_any _ _))|(go_at_call 85;exact quiet_same (one_any _ _))|(go_at_call 83;exact quiet_same (sum_any _ _ _))|(go_at_call 86;exact quiet_same (min_any _ _ _))|(go_at_call 87;exact quiet_same (max_any _ _ _))|(go_at_call 88;exact quiet_same (xor_any _ _ _)));go_wp2;go_ret;exact⟨rfl,below_drewN (hb.alloc hb.size _) _⟩
 case inr.inr.inr.inl=>
  have h1:aggOk 4=true:=rfl;have h2:fVal 4= .func (.func 84) #[] #[]:=rfl;have h3:fBoth 4= .func (.func 87) #[] #[]:=rfl;go_enter Try.func61,Try.ntmps61;go_wp2_with (go_at_call 71;refine(of_any _ _).mono ?_;rintro e w1 ⟨rfl,hb⟩);go_quiet (first|(go_at_call 84;exact quiet_same (same_any _ _))|(go_at_call 85;exact quiet_same (one_any _ _))|(go_at_call 83;exact quiet_same (sum_any _ _ _))|(go_at_call 86;exact quiet_same (min_any _ _ _))|(go_at_call 87;exact quiet_same (max_any _ _ _))|(go_at_call 88;exact quiet_same (xor_any _ _ _)));go_wp2;go_ret;exact⟨rfl,below_drewN (hb.alloc hb.size _) _⟩
 case inr.inr.inr.inr.inl=>
  have h1:aggOk 5=true:=rfl;have h2:fVal 5= .func (.func 84) #[] #[]:=rfl;have h3:fBoth 5= .func (.func 88) #[] #[]:=rfl;go_enter Try.func61,Try.ntmps61;go_wp2_with (go_at_call 71;refine(of_any _ _).mono ?_;rintro e w1 ⟨rfl,hb⟩);go_quiet (first|(go_at_call 84;exact quiet_same (same_any _ _))|(go_at_call 85;exact quiet_same (one_any _ _))|(go_at_call 83;exact quiet_same (sum_any _ _ _))|(go_at_call 86;exact quiet_same (min_any _ _ _))|(go_at_call 87;exact quiet_same (max_any _ _ _))|(go_at_call 88;exact quiet_same (xor_any _ _ _)));go_wp2;go_ret;exact⟨rfl,below_drewN (hb.alloc hb.size _) _⟩
set_option maxHeartbeats 4000000 in
theorem merge_any (a x y:Int) (w:World):Calls Try.prog 44 #[.int .i64 a,.int .i64 x,.int .i64 y] w fun e w'=>e= .returned (.int .i64 (aggMerge a x y))∧Below w.heap.size w w' :=by
 rcases agg_cases a with rfl|rfl|rfl|rfl|rfl|h
 case inr.inr.inr.inr.inr=>
  have h1:=ok_no h;go_enter Try.func44,Try.ntmps44;go_wp2_with (go_at_call 71;refine(of_any _ _).mono ?_;rintro e w1 ⟨rfl,hb⟩);go_ret;exact⟨by rw[aggMerge,h1];rfl,hb.alloc hb.size _⟩
 case inl=>
  have h1:aggOk 1=true:=rfl;have h2:fVal 1= .func (.func 84) #[] #[]:=rfl;have h3:fBoth 1= .func (.func 83) #[] #[]:=rfl;go_enter Try.func44,Try.ntmps44;go_wp2_with (first|(go_at_call 71;refine(of_any _ _).mono ?_;rintro e w1 ⟨rfl,hb⟩)|(go_at_call 83;refine(sum_any _ _ _).mono ?_;rintro e w2 ⟨rfl,rfl⟩)|(go_at_call 86;refine(min_any _ _ _).mono ?_;rintro e w2 ⟨rfl,rfl⟩)|(go_at_call 87;refine(max_any _ _ _).mono ?_;rintro e w2 ⟨rfl,rfl⟩)|(go_at_call 88;refine(xor_any _ _ _).mono ?_;rintro e w2 ⟨rfl,rfl⟩));go_ret;exact⟨rfl,hb.alloc hb.size _⟩
 case inr.inl=>
  have h1:aggOk 2=true:=rfl;have h2:fVal 2= .func (.func 85) #[] #[]:=rfl;have h3:fBoth 2= .func (.func 83) #[] #[]:=rfl;go_enter Try.func44,Try.ntmps44;go_wp2_with (first|(go_at_call 71;refine(of_any _ _).mono ?_;rintro e w1 ⟨rfl,hb⟩)|(go_at_call 83;refine(sum_any _ _ _).mono ?_;rintro e w2 ⟨rfl,rfl⟩)|(go_at_call 86;refine(min_any _ _ _).mono ?_;rintro e w2 ⟨rfl,rfl⟩)|(go_at_call 87;refine(max_any _ _ _).mono ?_;rintro e w2 ⟨rfl,rfl⟩)|(go_at_call 88;refine(xor_any _ _ _).mono ?_;rintro e w2 ⟨rfl,rfl⟩));go_ret;exact⟨rfl,hb.alloc hb.size _⟩
 case inr.inr.inl=>
  have h1:aggOk 3=true:=rfl;have h2:fVal 3= .func (.func 84) #[] #[]:=rfl;have h3:fBoth 3= .func (.func 86) #[] #[]:=rfl;go_enter Try.func44,Try.ntmps44;go_wp2_with (first|(go_at_call 71;refine(of_any _ _).mono ?_;rintro e w1 ⟨rfl,hb⟩)|(go_at_call 83;refine(sum_any _ _ _).mono ?_;rintro e w2 ⟨rfl,rfl⟩)|(go_at_call 86;refine(min_any _ _ _).mono ?_;rintro e w2 ⟨rfl,rfl⟩)|(go_at_call 87;refine(max_any _ _ _).mono ?_;rintro e w2 ⟨rfl,rfl⟩)|(go_at_call 88;refine(xor_any _ _ _).mono ?_;rintro e w2 ⟨rfl,rfl⟩));go_ret;exact⟨rfl,hb.alloc hb.size _⟩
 case inr.inr.inr.inl=>
  have h1:aggOk 4=true:=rfl;have h2:fVal 4= .func (.func 84) #[] #[]:=rfl;have h3:fBoth 4= .func (.func 87) #[] #[]:=rfl;go_enter Try.func44,Try.ntmps44;go_wp2_with (first|(go_at_call 71;refine(of_any _ _).mono ?_;rintro e w1 ⟨rfl,hb⟩)|(go_at_call 83;refine(sum_any _ _ _).mono ?_;rintro e w2 ⟨rfl,rfl⟩)|(go_at_call 86;refine(min_any _ _ _).mono ?_;rintro e w2 ⟨rfl,rfl⟩)|(go_at_call 87;refine(max_any _ _ _).mono ?_;rintro e w2 ⟨rfl,rfl⟩)|(go_at_call 88;refine(xor_any _ _ _).mono ?_;rintro e w2 ⟨rfl,rfl⟩));go_ret;exact⟨rfl,hb.alloc hb.size _⟩
 case inr.inr.inr.inr.inl=>
  have h1:aggOk 5=true:=rfl;have h2:fVal 5= .func (.func 84) #[] #[]:=rfl;have h3:fBoth 5= .func (.func 88) #[] #[]:=rfl;go_enter Try.func44,Try.ntmps44;go_wp2_with (first|(go_at_call 71;refine(of_any _ _).mono ?_;rintro e w1 ⟨rfl,hb⟩)|(go_at_call 83;refine(sum_any _ _ _).mono ?_;rintro e w2 ⟨rfl,rfl⟩)|(go_at_call 86;refine(min_any _ _ _).mono ?_;rintro e w2 ⟨rfl,rfl⟩)|(go_at_call 87;refine(max_any _ _ _).mono ?_;rintro e w2 ⟨rfl,rfl⟩)|(go_at_call 88;refine(xor_any _ _ _).mono ?_;rintro e w2 ⟨rfl,rfl⟩));go_ret;exact⟨rfl,hb.alloc hb.size _⟩
def agg_Merge.f (a0 a1 a2:Int):Option Int:=some (aggMerge a0 a1 a2)
theorem agg_Merge.calls (a0 a1 a2:Int) (r:Int) (w:World) (h:agg_Merge.f a0 a1 a2=some r):
  Calls Try.prog 44 #[.int .i64 a0,.int .i64 a1,.int .i64 a2] w fun e w'=>e= .returned (.int .i64 r)∧Below w.heap.size w w' :=by
 obtain rfl:=Option.some.inj h;exact merge_any a0 a1 a2 w
end Go.Proofs.Ytjegeghigfmkoaa
