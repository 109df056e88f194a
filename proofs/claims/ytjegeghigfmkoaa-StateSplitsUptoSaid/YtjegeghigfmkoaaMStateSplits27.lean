/- For every input that the row can read, the Go function leat/leatlaw12.StateSplits returns true, and each argument reads afterwards as it read before. Conditions: none beyond the row's own. -/
import Derived.Test.YtjegeghigfmkoaaRows
import Derived.Test.YtjegeghigfmkoaaMStateSplits26
import Derived.WalkKit
import Derived.JoinedCond
import Derived.Deep.CondSized
import Derived.ProofKit
import Derived.OpenShut
import Derived.ShutString
import Derived.ChangeOld
import Derived.Below
import Derived.SizedLaws
import Derived.Carry
namespace Go.Proofs.Ytjegeghigfmkoaa.stateSplits
open Go.ChangeShapes Go.WideShapes Go.ChangeAt Go.RowKit Go.Proofs.YtjegeghigfmkoaaW.PrintWords
open Go.ChangeMaps (open_string shut_string)
open Go.Proofs.Ytjegeghigfmkoaa.Op Go.Proofs.Ytjegeghigfmkoaa.X
set_option linter.unusedVariables false
theorem own : ownKnob Try.prog.godebug = none := by kernel_rfl
theorem laidOut : laidOutB Try.prog = true := by kernel_rfl
set_option maxRecDepth 100000 in
theorem lifted (os : Os) (started : os.Started) (H : Type) (enc : TypeId × Value → H) (F : Stop.Interp) :
    ReturnsInHanded {} Try.checked os 8 .any ((Rows.OpenSpec.upto Rows.stateSplitsSpec).pre6 enc Try.prog Try.f8 Rows.stateSplitsUptoRow.domain false) (((Rows.OpenSpec.upto Rows.stateSplitsSpec).at F).post enc Try.prog Try.f8 false true false false) := by
  refine returnsInHanded_of_cond_sized (C := Try.checked) (s := Rows.OpenSpec.upto Rows.stateSplitsSpec) (k := Rows.uptoSmall) rfl own started (by kernel_rfl) Try.func8
    (OpenSpec.witness (enc := enc) (C := Try.checked) (s := Rows.OpenSpec.upto Rows.stateSplitsSpec) (k := Rows.uptoSmall) rfl false ⟨#[], #[.agg #[.int .i64 0, .int .i64 0, .int .i64 0], .int .i64 0, .slice none 0 0, .slice none 0 0, .int .i64 0, .int .i64 0], []⟩ 8 (by kernel_rfl) (by kernel_rfl) (by kernel_rfl) (x := ([.agg [.lit (.int .i64 0), .lit (.int .i64 0), .lit (.int .i64 0)], .lit (.int .i64 0), .nil, .nil, .lit (.int .i64 0), .lit (.int .i64 0)], [], [])) (by kernel_rfl) rfl (by kernel_rfl)) ?_
  intro W base args ds gs before hval0 hW hcnd hkup hsz0 _
  have hsz : (DataW.weightsEach Try.prog (Try.f8.params.toList ++ Rows.stateSplitsSpec.plain.varTypes Try.prog) (ds ++ gs)).all (· ≤ reachBytes) = true := hsz0
  have hval : ∀ (j : Nat) t v, Try.f8.params[j]? = some t → args[j]? = some v → Value.okWide Try.prog W .any base t v := hval0
  have hW' := hW
  obtain ⟨p, q, hA0, hV, rfl, hfz, hnd⟩ := hW
  have hA : DataW.TrodAll enc Try.prog W 0 (fun _ => true) true Try.f8.params.toList args.toList ds p := hA0
  rw [Try.params8] at hA hval hsz
  obtain ⟨v0, vs0, d0, ds0, p0, q0, hargs, rfl, rfl, h0, r0⟩ := trodAll_cons hA
  obtain ⟨v1, vs1, d1, ds1, p1, q1, rfl, rfl, rfl, h1, r1⟩ := trodAll_cons r0
  obtain ⟨v2, vs2, d2, ds2, p2, q2, rfl, rfl, rfl, h2, r2⟩ := trodAll_cons r1
  obtain ⟨v3, vs3, d3, ds3, p3, q3, rfl, rfl, rfl, h3, r3⟩ := trodAll_cons r2
  obtain ⟨v4, vs4, d4, ds4, p4, q4, rfl, rfl, rfl, h4, r4⟩ := trodAll_cons r3
  obtain ⟨v5, vs5, d5, ds5, p5, q5, rfl, rfl, rfl, h5, r5⟩ := trodAll_cons r4
  obtain ⟨rfl, rfl, rfl⟩ := trodAll_nil r5
  obtain rfl : args = #[v0, v1, v2, v3, v4, v5] := by cases args; simp_all
  obtain ⟨rfl, rfl⟩ := trodVars_none hV
  have k0 := h0
  have lt0 : ∀ x ∈ p0, x.block < W.heap.size := by obtain ⟨m, hm⟩ := k0; exact DataW.trod_lt m _ _ _ hm
  obtain ⟨x0, K0, G0⟩ := open_arg (d := (Kd.pair (Kd.int .i64) (Kd.pair (Kd.int .i64) (Kd.int .i64)))) (j := 0) (t := 23) (fun n => (opens_st Try.underlying23 (by first | rfl | kernel_rfl) (fun n => (opens_more (by first | rfl | kernel_rfl) (by first | rfl | kernel_rfl) (opens_int .i64 Try.underlying3) (opens_more (by first | rfl | kernel_rfl) (by first | rfl | kernel_rfl) (opens_int .i64 Try.underlying2) (opens_one (by first | rfl | kernel_rfl) (by first | rfl | kernel_rfl) (opens_int .i64 Try.underlying2))))) n)) hsz rfl rfl h0
  obtain ⟨a0_0, a0_1, a0_2⟩ := x0
  generalize hcs0 : v0.cells.toList = cs0 at K0
  obtain ⟨_, _, rfl, K_a0_0, ⟨_, _, rfl, K_a0_1, K_a0_2⟩⟩ := K0
  obtain ⟨G_a0_0, G_a0_1, G_a0_2⟩ := G0
  obtain rfl := K_a0_0
  obtain rfl := K_a0_1
  obtain rfl := K_a0_2
  obtain rfl := arg_struct Try.underlying23 (hval 0 23 v0 rfl rfl) hcs0
  obtain ⟨a1, rfl, rfl, rfl, w1⟩ := open_int Try.underlying3 (hval 1 3 v1 rfl rfl) h1
  have k2 := h2
  have lt2 : ∀ x ∈ p2, x.block < W.heap.size := by obtain ⟨m, hm⟩ := k2; exact DataW.trod_lt m _ _ _ hm
  obtain ⟨l2, K2, G2⟩ := open_arg (j := 2) (t := 47) (fun n => (opens_sl (B := 24) Try.underlying47 (by first | rfl | kernel_rfl) (by kernel_rfl) (fun n => (opens39 n)) n)) hsz rfl rfl h2
  obtain ⟨A2, c2, rfl, hc2, hr2⟩ := arg_slice Try.underlying47 (hval 2 47 v2 rfl rfl) K2
  have k3 := h3
  have lt3 : ∀ x ∈ p3, x.block < W.heap.size := by obtain ⟨m, hm⟩ := k3; exact DataW.trod_lt m _ _ _ hm
  obtain ⟨l3, K3, G3⟩ := open_arg (j := 3) (t := 47) (fun n => (opens_sl (B := 24) Try.underlying47 (by first | rfl | kernel_rfl) (by kernel_rfl) (fun n => (opens39 n)) n)) hsz rfl rfl h3
  obtain ⟨A3, c3, rfl, hc3, hr3⟩ := arg_slice Try.underlying47 (hval 3 47 v3 rfl rfl) K3
  obtain ⟨a4, rfl, rfl, rfl, w4⟩ := open_int Try.underlying3 (hval 4 3 v4 rfl rfl) h4
  obtain ⟨a5, rfl, rfl, rfl, w5⟩ := open_int Try.underlying2 (hval 5 2 v5 rfl rfl) h5
  clear hA0 hval0 hsz0 hsz
  have hk := Pure.StateSplits _ _ _ _ _ _ _ _ G_a0_0 G_a0_1 G_a0_2 w1 G2 G3 w4 w5
  refine (X.leatlaw12_StateSplits.calls (w := W) (r := true) (hr2 := hr2) (hc2 := hc2) (hr3 := hr3) (hc3 := hc3) (h := hk)).mono fun e W' ⟨he, bel0⟩ => ?_
  have bel : Below W.heap.size W W' := by first | exact bel0 | (obtain ⟨nd, rfl⟩ := bel0; exact pw_below_drewN (Below.refl _ _) _)
  subst he
  exact ⟨_, rfl, _, _, _, [], _, [], hW', trodAll_mk1 (shut_bool Try.underlying4 _), (trodAll_cons_mk (Below.trod laidOut (by kernel_rfl) (of_decide_eq_true (by kernel_rfl)) k0 bel lt0) (trodAll_cons_mk (shut_int Try.underlying3 w1) (trodAll_cons_mk (Below.trod laidOut (by kernel_rfl) (of_decide_eq_true (by kernel_rfl)) k2 bel lt2) (trodAll_cons_mk (Below.trod laidOut (by kernel_rfl) (of_decide_eq_true (by kernel_rfl)) k3 bel lt3) (trodAll_cons_mk (shut_int Try.underlying3 w4) (trodAll_cons_mk (shut_int Try.underlying2 w5) trodAll_mk0)))))), rfl, bel.frame _, fun h => by cases h⟩
theorem over : Rows.stateSplitsUptoRow.holds Try.pinned (Rows.OpenSpec.upto Rows.stateSplitsSpec) :=
  OpenClaim.holds_of_cond 8 Try.f8 rfl rfl rfl rfl rfl rfl rfl ⟨rfl, rfl, rfl, rfl, rfl⟩ rfl rfl rfl rfl rfl (by kernel_rfl) Try.func8 (by kernel_rfl)
    (of_decide_eq_true (by kernel_rfl)) (by unfold Func.isWrapper; first | (rw [if_pos (by decide +kernel)]; kernel_rfl) | (rw [if_neg (by decide +kernel)]; exact ⟨rfl, rfl⟩))
    (fun os started H enc _ F => lifted os started H enc F)
theorem proved : Rows.StateSplitsUptoSaid := over
#print axioms proved
end Go.Proofs.Ytjegeghigfmkoaa.stateSplits
namespace Go.Proofs.Ytjegeghigfmkoaa
theorem stateSplits_holds : Rows.StateSplitsUptoSaid := stateSplits.proved
end Go.Proofs.Ytjegeghigfmkoaa
