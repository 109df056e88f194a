/- For every input that the row can read, the Go function leat/leatlaw8.JobHeavy returns true, and each argument reads afterwards as it read before. Conditions: none beyond the row's own. -/
import Derived.Test.YtpbmfdbfimcpjaaRows
import Derived.Test.YtpbmfdbfimcpjaaMJobHeavy15
import Derived.WalkKit
import Derived.ProofKit
import Derived.OpenShut
import Derived.ShutString
import Derived.ChangeOld
import Derived.Below
import Derived.SizedLaws
import Derived.Carry
namespace Go.Proofs.Ytpbmfdbfimcpjaa.jobHeavy
open Go.ChangeShapes Go.WideShapes Go.ChangeAt Go.RowKit Go.Proofs.YtpbmfdbfimcpjaaW.PrintWords
open Go.ChangeMaps (open_string shut_string)
open Go.Proofs.Ytpbmfdbfimcpjaa.Op Go.Proofs.Ytpbmfdbfimcpjaa.X
set_option linter.unusedVariables false
theorem own : ownKnob Try.prog.godebug = none := by kernel_rfl
theorem laidOut : laidOutB Try.prog = true := by kernel_rfl
set_option maxRecDepth 100000 in
theorem lifted (os : Os) (started : os.Started) (H : Type) (enc : TypeId × Value → H) :
    ReturnsInHanded {} Try.checked os 5 .any (Rows.jobHeavySpec.pre6 enc Try.prog Try.f5 Rows.jobHeavyRow.domain false) (Rows.jobHeavySpec.post enc Try.prog Try.f5 false true false false) := by
  refine returnsInHanded_of_change_sized (C := Try.checked) own started (by kernel_rfl) Try.func5
    (ChangeSpec.witness6 (enc := enc) (C := Try.checked) false ⟨#[], #[.slice none 0 0], []⟩ 8 (by kernel_rfl) (by kernel_rfl) (by kernel_rfl) (by kernel_rfl)) ?_
  intro W base args ds gs before hval0 hW hcnd hsz0 _
  have hsz : (DataW.weightsEach Try.prog (Try.f5.params.toList ++ Rows.jobHeavySpec.plain.varTypes Try.prog) (ds ++ gs)).all (· ≤ reachBytes) = true := hsz0
  have hval : ∀ (j : Nat) t v, Try.f5.params[j]? = some t → args[j]? = some v → Value.okWide Try.prog W .any base t v := hval0
  have hW' := hW
  obtain ⟨p, q, hA0, hV, rfl, hfz, hnd⟩ := hW
  have hA : DataW.TrodAll enc Try.prog W 0 (fun _ => true) true Try.f5.params.toList args.toList ds p := hA0
  rw [Try.params5] at hA hval hsz
  obtain ⟨v0, vs0, d0, ds0, p0, q0, hargs, rfl, rfl, h0, r0⟩ := trodAll_cons hA
  obtain ⟨rfl, rfl, rfl⟩ := trodAll_nil r0
  obtain rfl : args = #[v0] := by cases args; simp_all
  obtain ⟨rfl, rfl⟩ := trodVars_none hV
  have k0 := h0
  have lt0 : ∀ x ∈ p0, x.block < W.heap.size := by obtain ⟨m, hm⟩ := k0; exact DataW.trod_lt m _ _ _ hm
  obtain ⟨l0, K0, G0⟩ := open_arg (j := 0) (t := 41) (fun n => (opens_sl (B := 1) Try.underlying41 (by first | rfl | kernel_rfl) (by kernel_rfl) (fun n => (opens_int .u8 Try.underlying5)) n)) hsz rfl rfl h0
  obtain ⟨A0, c0, rfl, hc0, hr0⟩ := arg_slice Try.underlying41 (hval 0 41 v0 rfl rfl) K0
  clear hA0 hval0 hsz0 hsz
  obtain ⟨k, hk⟩ := Pure.JobHeavy _ G0
  refine (X.leatlaw8_JobHeavy.calls (w := W) (r := true) (hr0 := hr0) (hc0 := hc0) (h := hk)).mono fun e W' ⟨he, bel0⟩ => ?_
  have bel : Below W.heap.size W W' := by first | exact bel0 | (obtain ⟨nd, rfl⟩ := bel0; exact pw_below_drewN (Below.refl _ _) _)
  subst he
  exact ⟨_, rfl, _, _, _, [], _, [], hW', trodAll_mk1 (shut_bool Try.underlying4 _), (trodAll_cons_mk (Below.trod laidOut (by kernel_rfl) (of_decide_eq_true (by kernel_rfl)) k0 bel lt0) trodAll_mk0), rfl, bel.frame _, fun h => by cases h⟩
theorem over : Rows.jobHeavyRow.holds Try.pinned (OpenSpec.ofChange Rows.jobHeavySpec) :=
  OpenClaim.holds_of_wide 5 Try.f5 rfl rfl rfl rfl rfl rfl rfl ⟨rfl, rfl, rfl, rfl, rfl⟩ rfl rfl rfl rfl rfl (by kernel_rfl) Try.func5 (by kernel_rfl)
    (of_decide_eq_true (by kernel_rfl)) (by unfold Func.isWrapper; first | (rw [if_pos (by decide +kernel)]; kernel_rfl) | (rw [if_neg (by decide +kernel)]; exact ⟨rfl, rfl⟩))
    (fun os started H enc _ => lifted os started H enc)
theorem proved : Rows.JobHeavySaid := over
#print axioms proved
end Go.Proofs.Ytpbmfdbfimcpjaa.jobHeavy
namespace Go.Proofs.Ytpbmfdbfimcpjaa
theorem jobHeavy_holds : Rows.JobHeavySaid := jobHeavy.proved
end Go.Proofs.Ytpbmfdbfimcpjaa
