/- For every input that the row can read, the Go function leat/leatlaw7.ExprLaws returns true, and each argument reads afterwards as it read before. Conditions: none beyond the row's own. -/
import Derived.Test.YtdmfakgbiaaacaaDoorRows
import Derived.Test.YtdmfakgbiaaacaaDoorMExprLaws14
import Derived.Test.YtdmfakgbiaaacaaDoorMExprLaws6
import Derived.Test.YtdmfakgbiaaacaaDoorMExprLaws5
import Derived.Test.YtdmfakgbiaaacaaDoorMExprLaws15
import Derived.WalkKit
import Derived.ProofKit
import Derived.OpenShut
import Derived.ShutString
import Derived.ChangeOld
import Derived.Below
import Derived.SizedLaws
import Derived.Carry
namespace Go.Proofs.YtdmfakgbiaaacaaDoor.exprLaws
open Go.ChangeShapes Go.WideShapes Go.ChangeAt Go.RowKit Go.Proofs.YtdmfakgbiaaacaaDoorW.PrintWords
open Go.ChangeMaps (open_string shut_string)
open Go.Proofs.YtdmfakgbiaaacaaDoor.Op Go.Proofs.YtdmfakgbiaaacaaDoor.X
set_option linter.unusedVariables false
theorem own : ownKnob Tryd.prog.godebug = none := by kernel_rfl
theorem laidOut : laidOutB Tryd.prog = true := by kernel_rfl
set_option maxRecDepth 100000 in
theorem lifted (os : Os) (started : os.Started) (H : Type) (enc : TypeId × Value → H) :
    ReturnsInHanded {} Tryd.checked os 7 .any (fun w args => (Rows.exprLawsSpec.pre enc Tryd.prog Tryd.f7 [] false w args ∧ laidMetH Tryd.prog laidL w) ∧ sizedMet enc Tryd.prog Tryd.f7 (OpenSpec.ofChange Rows.exprLawsSpec) false w args) (Rows.exprLawsSpec.post enc Tryd.prog Tryd.f7 false true false false) := by
  refine returnsInHanded_of_change_and (C := Tryd.checked) (X := fun w _ => laidMetH Tryd.prog laidL w) (fun _ _ _ hh h => h.of_heap hh) own started (by kernel_rfl) Tryd.func7
    (ChangeSpec.witness_shaped (enc := enc) (C := Tryd.checked) (os := os) (X := fun w _ => laidMetH Tryd.prog laidL w) false (World.doorLaid Tryd.prog 400 os) #[.agg #[.int .i64 0, .int .i64 0, .slice none 0 0], .agg #[.int .i64 0, .int .i64 0, .slice none 0 0], .agg #[.int .i64 0, .int .i64 0, .slice none 0 0], .agg #[.int .i64 0, .int .i64 0, .int .i64 0]] 8 rfl (World.shaped_of_RefB (by kernel_rfl) (by kernel_rfl)) (by kernel_rfl) (by kernel_rfl) (by kernel_rfl) (door_met os _)) ?_
  intro W base args ds gs before hval0 hW hcnd hsz0 hL _
  have hsz : (DataW.weightsEach Tryd.prog (Tryd.f7.params.toList ++ Rows.exprLawsSpec.plain.varTypes Tryd.prog) (ds ++ gs)).all (· ≤ reachBytes) = true := hsz0
  have hval : ∀ (j : Nat) t v, Tryd.f7.params[j]? = some t → args[j]? = some v → Value.okWide Tryd.prog W .any base t v := hval0
  have hW' := hW
  obtain ⟨p, q, hA0, hV, rfl, hfz, hnd⟩ := hW
  have hA : DataW.TrodAll enc Tryd.prog W 0 (fun _ => true) true Tryd.f7.params.toList args.toList ds p := hA0
  rw [Tryd.params7] at hA hval hsz
  obtain ⟨v0, vs0, d0, ds0, p0, q0, hargs, rfl, rfl, h0, r0⟩ := trodAll_cons hA
  obtain ⟨v1, vs1, d1, ds1, p1, q1, rfl, rfl, rfl, h1, r1⟩ := trodAll_cons r0
  obtain ⟨v2, vs2, d2, ds2, p2, q2, rfl, rfl, rfl, h2, r2⟩ := trodAll_cons r1
  obtain ⟨v3, vs3, d3, ds3, p3, q3, rfl, rfl, rfl, h3, r3⟩ := trodAll_cons r2
  obtain ⟨rfl, rfl, rfl⟩ := trodAll_nil r3
  obtain rfl : args = #[v0, v1, v2, v3] := by cases args; simp_all
  obtain ⟨rfl, rfl⟩ := trodVars_none hV
  have k0 := h0
  have lt0 : ∀ x ∈ p0, x.block < W.heap.size := by obtain ⟨m, hm⟩ := k0; exact DataW.trod_lt m _ _ _ hm
  obtain ⟨x0, K0, G0⟩ := open_arg (d := (Kd.pair (Kd.int .i64) (Kd.pair (Kd.int .i64) (Kd.slice 24 k24)))) (j := 0) (t := 24) (fun n => (opens_st Tryd.underlying24 (by first | rfl | kernel_rfl) (fun n => (opens_more (by first | rfl | kernel_rfl) (by first | rfl | kernel_rfl) (opens_int .i64 Tryd.underlying3) (opens_more (by first | rfl | kernel_rfl) (by first | rfl | kernel_rfl) (opens_int .i64 Tryd.underlying2) (opens_one (by first | rfl | kernel_rfl) (by first | rfl | kernel_rfl) (opens_sl (B := 40) Tryd.underlying22 (by first | rfl | kernel_rfl) (by kernel_rfl) (fun n => (opens24 n)) n))))) n)) hsz rfl rfl h0
  obtain ⟨a0_0, a0_1, l0_2⟩ := x0
  generalize hcs0 : v0.cells.toList = cs0 at K0
  obtain ⟨_, _, rfl, K_a0_0, ⟨_, _, rfl, K_a0_1, K_l0_2⟩⟩ := K0
  obtain ⟨G_a0_0, G_a0_1, G_l0_2⟩ := G0
  obtain rfl := K_a0_0
  obtain rfl := K_a0_1
  obtain ⟨Al0_2, cl0_2, rfl, hcl0_2, hrl0_2⟩ := K_l0_2
  obtain rfl := arg_struct Tryd.underlying24 (hval 0 24 v0 rfl rfl) hcs0
  have k1 := h1
  have lt1 : ∀ x ∈ p1, x.block < W.heap.size := by obtain ⟨m, hm⟩ := k1; exact DataW.trod_lt m _ _ _ hm
  obtain ⟨x1, K1, G1⟩ := open_arg (d := (Kd.pair (Kd.int .i64) (Kd.pair (Kd.int .i64) (Kd.slice 24 k24)))) (j := 1) (t := 24) (fun n => (opens_st Tryd.underlying24 (by first | rfl | kernel_rfl) (fun n => (opens_more (by first | rfl | kernel_rfl) (by first | rfl | kernel_rfl) (opens_int .i64 Tryd.underlying3) (opens_more (by first | rfl | kernel_rfl) (by first | rfl | kernel_rfl) (opens_int .i64 Tryd.underlying2) (opens_one (by first | rfl | kernel_rfl) (by first | rfl | kernel_rfl) (opens_sl (B := 40) Tryd.underlying22 (by first | rfl | kernel_rfl) (by kernel_rfl) (fun n => (opens24 n)) n))))) n)) hsz rfl rfl h1
  obtain ⟨a1_0, a1_1, l1_2⟩ := x1
  generalize hcs1 : v1.cells.toList = cs1 at K1
  obtain ⟨_, _, rfl, K_a1_0, ⟨_, _, rfl, K_a1_1, K_l1_2⟩⟩ := K1
  obtain ⟨G_a1_0, G_a1_1, G_l1_2⟩ := G1
  obtain rfl := K_a1_0
  obtain rfl := K_a1_1
  obtain ⟨Al1_2, cl1_2, rfl, hcl1_2, hrl1_2⟩ := K_l1_2
  obtain rfl := arg_struct Tryd.underlying24 (hval 1 24 v1 rfl rfl) hcs1
  have k2 := h2
  have lt2 : ∀ x ∈ p2, x.block < W.heap.size := by obtain ⟨m, hm⟩ := k2; exact DataW.trod_lt m _ _ _ hm
  obtain ⟨x2, K2, G2⟩ := open_arg (d := (Kd.pair (Kd.int .i64) (Kd.pair (Kd.int .i64) (Kd.slice 24 k24)))) (j := 2) (t := 24) (fun n => (opens_st Tryd.underlying24 (by first | rfl | kernel_rfl) (fun n => (opens_more (by first | rfl | kernel_rfl) (by first | rfl | kernel_rfl) (opens_int .i64 Tryd.underlying3) (opens_more (by first | rfl | kernel_rfl) (by first | rfl | kernel_rfl) (opens_int .i64 Tryd.underlying2) (opens_one (by first | rfl | kernel_rfl) (by first | rfl | kernel_rfl) (opens_sl (B := 40) Tryd.underlying22 (by first | rfl | kernel_rfl) (by kernel_rfl) (fun n => (opens24 n)) n))))) n)) hsz rfl rfl h2
  obtain ⟨a2_0, a2_1, l2_2⟩ := x2
  generalize hcs2 : v2.cells.toList = cs2 at K2
  obtain ⟨_, _, rfl, K_a2_0, ⟨_, _, rfl, K_a2_1, K_l2_2⟩⟩ := K2
  obtain ⟨G_a2_0, G_a2_1, G_l2_2⟩ := G2
  obtain rfl := K_a2_0
  obtain rfl := K_a2_1
  obtain ⟨Al2_2, cl2_2, rfl, hcl2_2, hrl2_2⟩ := K_l2_2
  obtain rfl := arg_struct Tryd.underlying24 (hval 2 24 v2 rfl rfl) hcs2
  have k3 := h3
  have lt3 : ∀ x ∈ p3, x.block < W.heap.size := by obtain ⟨m, hm⟩ := k3; exact DataW.trod_lt m _ _ _ hm
  obtain ⟨x3, K3, G3⟩ := open_arg (d := (Kd.pair (Kd.int .i64) (Kd.pair (Kd.int .i64) (Kd.int .i64)))) (j := 3) (t := 26) (fun n => (opens_st Tryd.underlying26 (by first | rfl | kernel_rfl) (fun n => (opens_more (by first | rfl | kernel_rfl) (by first | rfl | kernel_rfl) (opens_int .i64 Tryd.underlying2) (opens_more (by first | rfl | kernel_rfl) (by first | rfl | kernel_rfl) (opens_int .i64 Tryd.underlying2) (opens_one (by first | rfl | kernel_rfl) (by first | rfl | kernel_rfl) (opens_int .i64 Tryd.underlying2))))) n)) hsz rfl rfl h3
  obtain ⟨a3_0, a3_1, a3_2⟩ := x3
  generalize hcs3 : v3.cells.toList = cs3 at K3
  obtain ⟨_, _, rfl, K_a3_0, ⟨_, _, rfl, K_a3_1, K_a3_2⟩⟩ := K3
  obtain ⟨G_a3_0, G_a3_1, G_a3_2⟩ := G3
  obtain rfl := K_a3_0
  obtain rfl := K_a3_1
  obtain rfl := K_a3_2
  obtain rfl := arg_struct Tryd.underlying26 (hval 3 26 v3 rfl rfl) hcs3
  clear hA0 hval0 hsz0 hsz
  have hk := Pure.ExprLaws _ _ _ _ _ _ _ _ _ _ _ _ G_a0_0 G_a0_1 G_l0_2 G_a1_0 G_a1_1 G_l1_2 G_a2_0 G_a2_1 G_l2_2 G_a3_0 G_a3_1 G_a3_2
  refine (X.leatlaw7_ExprLaws.calls (w := W) (r := true) (htab := tab_of_laid hL) (hr0_2 := hrl0_2) (hc0_2 := hcl0_2) (hr1_2 := hrl1_2) (hc1_2 := hcl1_2) (hr2_2 := hrl2_2) (hc2_2 := hcl2_2) (h := hk)).mono fun e W' ⟨he, bel0⟩ => ?_
  have bel : Below W.heap.size W W' := by first | exact bel0 | (obtain ⟨nd, rfl⟩ := bel0; exact pw_below_drewN (Below.refl _ _) _)
  subst he
  exact ⟨_, rfl, _, _, _, [], _, [], hW', trodAll_mk1 (shut_bool Tryd.underlying4 _), (trodAll_cons_mk (Below.trod laidOut (by kernel_rfl) (of_decide_eq_true (by kernel_rfl)) k0 bel lt0) (trodAll_cons_mk (Below.trod laidOut (by kernel_rfl) (of_decide_eq_true (by kernel_rfl)) k1 bel lt1) (trodAll_cons_mk (Below.trod laidOut (by kernel_rfl) (of_decide_eq_true (by kernel_rfl)) k2 bel lt2) (trodAll_cons_mk (Below.trod laidOut (by kernel_rfl) (of_decide_eq_true (by kernel_rfl)) k3 bel lt3) trodAll_mk0)))), rfl, bel.frame _, fun h => by cases h⟩
theorem over : Rows.exprLawsRow.holds Tryd.pinned (OpenSpec.ofChange Rows.exprLawsSpec) :=
  OpenClaim.holds_of_wide 7 Tryd.f7 rfl rfl rfl rfl rfl rfl rfl ⟨rfl, rfl, rfl, rfl, rfl⟩ rfl rfl rfl rfl rfl (by kernel_rfl) Tryd.func7 (by kernel_rfl)
    (of_decide_eq_true (by kernel_rfl)) (by unfold Func.isWrapper; first | (rw [if_pos (by decide +kernel)]; kernel_rfl) | (rw [if_neg (by decide +kernel)]; exact ⟨rfl, rfl⟩))
    (fun os started H enc _ => lifted os started H enc)
theorem proved : Rows.ExprLawsSaid := over
#print axioms proved
end Go.Proofs.YtdmfakgbiaaacaaDoor.exprLaws
namespace Go.Proofs.YtdmfakgbiaaacaaDoor
theorem exprLaws_holds : Rows.ExprLawsCardSaid :=
  Claim7.holds_tied_plain_at .later [] [.data, .data, .data] true (true, "41b4337ce2b8f75bb919cd266595f4083fd64b2757c7e107c2ac048b52c7a5ff") false
    exprLaws.proved (fun _ h => by cases h) (by kernel_rfl) (fun _ h => by cases h) exprLaws_row_tie rfl ⟨rfl, rfl⟩ (by kernel_rfl) rfl
    (fun f fn hf hfn => by
      obtain rfl : f = 7 := Option.some.inj ((show Tryd.prog.funcNamed "leat/leatlaw7.ExprLaws" = some 7 by kernel_rfl).symm.trans hf) |>.symm
      obtain rfl : fn = Tryd.f7 := (Option.some.inj (Tryd.func7.symm.trans hfn)).symm
      exact ⟨by kernel_rfl, fun j t ht => by
        rw [Tryd.params7] at ht
        rcases j with _ | _ | _ | _ | j <;> simp at ht <;> subst ht <;> kernel_rfl⟩)
    (by kernel_rfl)
end Go.Proofs.YtdmfakgbiaaacaaDoor
