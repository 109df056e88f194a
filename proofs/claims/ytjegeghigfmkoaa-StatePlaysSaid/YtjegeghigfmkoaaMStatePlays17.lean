/- slices.Clone of panes: a row of the call's own with the same panes. Conditions: those typed: fewer than 2^42 panes. -/
import Derived.Test.YtjegeghigfmkoaaMStatePlays11
import Derived.Lib.Hide
import Derived.WalkLawsBesides
import Derived.Laws.EntriesVeiled
namespace Go.Proofs.Ytjegeghigfmkoaa.X
open Go.RowKit Go.Proofs.YtjegeghigfmkoaaW.PrintWords Go.Proofs.YtjegeghigfmkoaaW.PrintLast
set_option maxRecDepth 100000
set_option linter.unusedVariables false
set_option linter.unusedSimpArgs false
theorem k70_KM {w w1:World} {base:Nat} {ok:Nat→Prop} {x:S70} {cs:List Value} (h:k70.K w x cs):k70.M w1 base ok x cs:=by
 have e:=k70_open h;subst e;exact k70_mkM _ _ _ _
set_option maxHeartbeats 2000000 in
theorem clone46 (A0:Option Addr) (c0:Nat) (l0:List S70) (w:World) (hr0:Kd.C k70 w A0 l0.length l0) (hc0:l0.length≤c0) (hl:l0.length<4398046511104):
  Calls Try.prog 69 #[.slice A0 l0.length c0] w fun e w'=> ∃v,e= .returned v∧Kd.R k70 70 w' w.heap.size (fun _=>True) v l0∧Below w.heap.size w w' :=by
 have hu35:=Try.underlying44;have HR:=Aside0.mk hr0;have hl2:=hl;clear hr0;cases A0 with
 | none=>
  have hz:l0.length=0:=by
   rcases Nat.eq_zero_or_pos l0.length with h|h
   ·exact h
   ·obtain⟨ad,e,_⟩:=HR.out.2.2 h;cases e
  have hnil:l0=[]:=List.eq_nil_of_length_eq_zero hz;subst hnil;have heq: ∀w,(binOp .eql 44 (.slice none 0 c0) (.slice none 0 0)).run Try.prog w= .ok (.bool true) w:=fun w=>Go.Lib.run_eql_slice_nil w 44 70 none 0 c0 0 0 Try.underlying44
  go_enter Try.func69,Try.ntmps69;go_wp2;go_ret;exact⟨_,rfl,Kd.R_nil k70 70 w w.heap.size _,Below.refl _ _⟩
 | some ad=>
  have heq: ∀w,(binOp .eql 44 (.slice (some ad) l0.length c0) (.slice none 0 0)).run Try.prog w= .ok (.bool false) w:=fun w=>Go.Lib.run_eql_slice_nil w 44 70 (some ad) l0.length c0 0 0 Try.underlying44
  go_enter Try.func69,Try.ntmps69;go_wp2_with (first
   |((with_reducible refine gate_dst (N:=5) rfl ?_);refine Kd.R_lit k70 w.heap.size 70 ?hg (N:=5) ?hd (xs:=([]:List S70)) (inner:=[]) (ok:=fun _=>True) (okp:=fun _=>True) ?hr ?hp (fun _ hk=>hk) trivial (Below.refl _ _) (Nat.le_refl _) (by simp) ?_;(case hd=>rfl);(case hg=>rfl);(case hr=>first|(go_simp;done)|(go_simp;rfl));(case hp=>exact Reps.none _ _);intro v5 w5 ho5 hb5 hg5 hn5)
   |((with_reducible refine gate_builtin (b:= .append) (xs:= #[.tmp 5,.tmp 6]) rfl ?_);at_builtin;refine Kd.R_append_rows k70 (Rr:=k70.K w5) (w0:=w) w.heap.size rfl (.tmp 5) (.tmp 6) 44 70 (.agg #[(.int .i64 0),(.int .i64 0),(.int .i64 0),(.int .i64 0)]) 32 rfl Try.underlying44 info70 rfl (show 0<4 from by decide) (show 0<32 from by decide) v5 ([]:List S70) l0 _ _ _ (fun _=>True) (fun _=>False) rfl rfl ?aO ?aR (fun _ _ h=>k70_KM h) (fun _ h=>h.elim) (fun _ _=>trivial) ?aB ?aS ?aL ?_;(case aO=>exact ho5);(case aR=>exact Kd.C_below HR.out hb5);(case aB=>exact hb5);(case aS=>exact hb5.size);(case aL=>(simp only[List.length_nil,Nat.zero_add];omega));intro v6 w6 ho6 hb6 hg6 hn6))
  go_ret;exact⟨v6,rfl,by simpa using ho6,hb6⟩
end Go.Proofs.Ytjegeghigfmkoaa.X
