/- For every input that the row can read, the Go function leat/leatlaw11.WindowFires returns true, and each argument reads afterwards as it read before. Conditions: none beyond the row's own. -/
import Derived.Test.YtdinbnbogdadgaaRows
import Derived.Test.YtdinbnbogdadgaaMWindowFires18
import Derived.WalkKit
import Derived.ProofKit
import Derived.OpenShut
import Derived.ShutString
import Derived.ChangeOld
import Derived.Below
import Derived.SizedLaws
import Derived.Carry
namespace Go.Proofs.Ytdinbnbogdadgaa.windowFires
open Go.ChangeShapes Go.WideShapes Go.ChangeAt Go.RowKit Go.Proofs.YtdinbnbogdadgaaW.PrintWords
open Go.ChangeMaps (open_string shut_string)
open Go.Proofs.Ytdinbnbogdadgaa.Op Go.Proofs.Ytdinbnbogdadgaa.X
set_option linter.unusedVariables false
theorem heap46 : Kd.Heap k46 := Kd.heap_iso _ (Kd.heap_pair (Kd.heap_int _) (Kd.heap_pair (Kd.heap_iso _ (Kd.heap_pair (Kd.heap_int _) (Kd.heap_int _))) (Kd.heap_int _)))
theorem own : ownKnob Try.prog.godebug = none := by kernel_rfl
theorem laidOut : laidOutB Try.prog = true := by kernel_rfl
set_option maxRecDepth 100000 in
theorem lifted (os : Os) (started : os.Started) (H : Type) (enc : TypeId × Value → H) :
  ReturnsInHanded {} Try.checked os 7 .any (Rows.windowFiresSpec.pre6 enc Try.prog Try.f7 Rows.windowFiresRow.domain false) (Rows.windowFiresSpec.post enc Try.prog Try.f7 false true false false) := by
 refine returnsInHanded_of_change_sized (C := Try.checked) own started (by kernel_rfl) Try.func7
  (ChangeSpec.witness6 (enc := enc) (C := Try.checked) false ⟨#[], #[.slice none 0 0, .slice none 0 0], []⟩ 8 (by kernel_rfl) (by kernel_rfl) (by kernel_rfl) (by kernel_rfl)) ?_
 intro W base args ds gs before hval0 hW hcnd hsz0 _
 have hsz : (DataW.weightsEach Try.prog (Try.f7.params.toList ++ Rows.windowFiresSpec.plain.varTypes Try.prog) (ds ++ gs)).all (· ≤ reachBytes) = true := hsz0
 have hval : ∀ (j : Nat) t v, Try.f7.params[j]? = some t → args[j]? = some v → Value.okWide Try.prog W .any base t v := hval0
 have hW' := hW
 obtain ⟨p, q, hA0, hV, rfl, hfz, hnd⟩ := hW
 have hA : DataW.TrodAll enc Try.prog W 0 (fun _ => true) true Try.f7.params.toList args.toList ds p := hA0
 rw [Try.params7] at hA hval hsz
 obtain ⟨v0, vs0, d0, ds0, p0, q0, hargs, rfl, rfl, h0, r0⟩ := trodAll_cons hA
 obtain ⟨v1, vs1, d1, ds1, p1, q1, rfl, rfl, rfl, h1, r1⟩ := trodAll_cons r0
 obtain ⟨rfl, rfl, rfl⟩ := trodAll_nil r1
 obtain rfl : args = #[v0, v1] := by cases args; simp_all
 obtain ⟨rfl, rfl⟩ := trodVars_none hV
 have k0 := h0
 have lt0 : ∀ x ∈ p0, x.block < W.heap.size := by obtain ⟨m, hm⟩ := k0; exact DataW.trod_lt m _ _ _ hm
 obtain ⟨l0, K0, G0⟩ := open_arg (j := 0) (t := 35) (fun n => (opens_sl (B := 32) Try.underlying35 (by first | rfl | kernel_rfl) (by kernel_rfl) (fun n => (opens46 n)) n)) hsz rfl rfl h0
 obtain ⟨A0, c0, rfl, hc0, hr0⟩ := arg_slice Try.underlying35 (hval 0 35 v0 rfl rfl) K0
 have k1 := h1
 have lt1 : ∀ x ∈ p1, x.block < W.heap.size := by obtain ⟨m, hm⟩ := k1; exact DataW.trod_lt m _ _ _ hm
 obtain ⟨l1, K1, G1⟩ := open_arg (j := 1) (t := 34) (fun n => (opens_sl (B := 8) Try.underlying34 (by first | rfl | kernel_rfl) (by kernel_rfl) (fun n => (opens_int .i64 Try.underlying2)) n)) hsz rfl rfl h1
 obtain ⟨A1, c1, rfl, hc1, hr1⟩ := arg_slice Try.underlying34 (hval 1 34 v1 rfl rfl) K1
 clear hA0 hval0 hsz0 hsz
 obtain ⟨k, hk⟩ := Pure.WindowFires _ _ G0 G1
 refine (X.leatlaw11_WindowFires.calls (P0_ := fun k_ => k_ < W.heap.size) (w := W) (r := true) (hs0 := Kd.V_mk hc0 (Kd.C_F heap46 hr0)) (hr1 := hr1) (hc1 := hc1) (h := hk)).mono fun e W' ⟨he, bel0⟩ => ?_
 have bel : Below W.heap.size W W' := by first | exact bel0 | (obtain ⟨nd, rfl⟩ := bel0; exact pw_below_drewN (Below.refl _ _) _)
 subst he
 exact ⟨_, rfl, _, _, _, [], _, [], hW', trodAll_mk1 (shut_bool Try.underlying4 _), (trodAll_cons_mk (Below.trod laidOut (by kernel_rfl) (of_decide_eq_true (by kernel_rfl)) k0 bel lt0) (trodAll_cons_mk (Below.trod laidOut (by kernel_rfl) (of_decide_eq_true (by kernel_rfl)) k1 bel lt1) trodAll_mk0)), rfl, bel.frame _, fun h => by cases h⟩
theorem over : Rows.windowFiresRow.holds Try.pinned (OpenSpec.ofChange Rows.windowFiresSpec) :=
 OpenClaim.holds_of_wide 7 Try.f7 rfl rfl rfl rfl rfl rfl rfl ⟨rfl, rfl, rfl, rfl, rfl⟩ rfl rfl rfl rfl rfl (by kernel_rfl) Try.func7 (by kernel_rfl)
  (of_decide_eq_true (by kernel_rfl)) (by unfold Func.isWrapper; first | (rw [if_pos (by decide +kernel)]; kernel_rfl) | (rw [if_neg (by decide +kernel)]; exact ⟨rfl, rfl⟩))
  (fun os started H enc _ => lifted os started H enc)
theorem proved : Rows.WindowFiresSaid := over
#print axioms proved
end Go.Proofs.Ytdinbnbogdadgaa.windowFires
namespace Go.Proofs.Ytdinbnbogdadgaa
theorem windowFires_holds : Rows.WindowFiresSaid := windowFires.proved
end Go.Proofs.Ytdinbnbogdadgaa
