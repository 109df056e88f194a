/- For every input that the row can read, the Go function leat/leatlaw2.DiskKeeps returns true, and each argument reads afterwards as it read before. Conditions: none beyond the row's own. -/
import Derived.Test.YtihbgdobicokpaaRows
import Derived.Test.YtihbgdobicokpaaDSayDiskKeeps
import Derived.Test.YtihbgdobicokpaaDPureDiskKeeps
import Derived.WalkKit
import Derived.ProofKit
import Derived.OpenShut
import Derived.ShutString
import Derived.ChangeOld
import Derived.Below
import Derived.SizedLaws
import Derived.Carry
namespace Go.Proofs.Ytihbgdobicokpaa.diskKeeps
open Go.ChangeShapes Go.WideShapes Go.ChangeAt Go.RowKit Go.Proofs.YtihbgdobicokpaaW.PrintWords
open Go.ChangeMaps (open_string shut_string)
open Go.Proofs.Ytihbgdobicokpaa.Op Go.Proofs.Ytihbgdobicokpaa.X
set_option linter.unusedVariables false
theorem own : ownKnob Try.prog.godebug = none := by kernel_rfl
theorem laidOut : laidOutB Try.prog = true := by kernel_rfl
set_option maxRecDepth 100000 in
theorem lifted (os : Os) (started : os.Started) (H : Type) (enc : TypeId × Value → H) :
  ReturnsInHanded {} Try.checked os 3 .any (Rows.diskKeepsSpec.pre6 enc Try.prog Try.f3 Rows.diskKeepsRow.domain false) (Rows.diskKeepsSpec.post enc Try.prog Try.f3 false true false false) := by
 refine returnsInHanded_of_change_sized (C := Try.checked) own started (by kernel_rfl) Try.func3
  (ChangeSpec.witness6 (enc := enc) (C := Try.checked) false ⟨#[], #[.slice none 0 0, .string ByteArray.empty, .slice none 0 0, .slice none 0 0, .bool false], []⟩ 8 (by kernel_rfl) (by kernel_rfl) (by kernel_rfl) (by kernel_rfl)) ?_
 intro W base args ds gs before hval0 hW hcnd hsz0 _
 have hsz : (DataW.weightsEach Try.prog (Try.f3.params.toList ++ Rows.diskKeepsSpec.plain.varTypes Try.prog) (ds ++ gs)).all (· ≤ reachBytes) = true := hsz0
 have hval : ∀ (j : Nat) t v, Try.f3.params[j]? = some t → args[j]? = some v → Value.okWide Try.prog W .any base t v := hval0
 have hW' := hW
 obtain ⟨p, q, hA0, hV, rfl, hfz, hnd⟩ := hW
 have hA : DataW.TrodAll enc Try.prog W 0 (fun _ => true) true Try.f3.params.toList args.toList ds p := hA0
 rw [Try.params3] at hA hval hsz
 obtain ⟨v0, vs0, d0, ds0, p0, q0, hargs, rfl, rfl, h0, r0⟩ := trodAll_cons hA
 obtain ⟨v1, vs1, d1, ds1, p1, q1, rfl, rfl, rfl, h1, r1⟩ := trodAll_cons r0
 obtain ⟨v2, vs2, d2, ds2, p2, q2, rfl, rfl, rfl, h2, r2⟩ := trodAll_cons r1
 obtain ⟨v3, vs3, d3, ds3, p3, q3, rfl, rfl, rfl, h3, r3⟩ := trodAll_cons r2
 obtain ⟨v4, vs4, d4, ds4, p4, q4, rfl, rfl, rfl, h4, r4⟩ := trodAll_cons r3
 obtain ⟨rfl, rfl, rfl⟩ := trodAll_nil r4
 obtain rfl : args = #[v0, v1, v2, v3, v4] := by cases args; simp_all
 obtain ⟨rfl, rfl⟩ := trodVars_none hV
 have k0 := h0
 have lt0 : ∀ x ∈ p0, x.block < W.heap.size := by obtain ⟨m, hm⟩ := k0; exact DataW.trod_lt m _ _ _ hm
 obtain ⟨l0, K0, G0⟩ := open_arg (j := 0) (t := 22) (fun n => (opens_sl (B := 96) Try.underlying22 (by first | rfl | kernel_rfl) (by kernel_rfl) (fun n => (opens30 n)) n)) hsz rfl rfl h0
 obtain ⟨A0, c0, rfl, hc0, hr0⟩ := arg_slice Try.underlying22 (hval 0 22 v0 rfl rfl) K0
 have k1 := h1
 have lt1 : ∀ x ∈ p1, x.block < W.heap.size := by obtain ⟨m, hm⟩ := k1; exact DataW.trod_lt m _ _ _ hm
 obtain ⟨a1, K1, G1⟩ := open_arg (j := 1) (t := 9) (fun n => (opens_string Try.underlying9)) hsz rfl rfl h1
 obtain rfl := arg_string Try.underlying9 (hval 1 9 v1 rfl rfl) K1
 have k2 := h2
 have lt2 : ∀ x ∈ p2, x.block < W.heap.size := by obtain ⟨m, hm⟩ := k2; exact DataW.trod_lt m _ _ _ hm
 obtain ⟨l2, K2, G2⟩ := open_arg (j := 2) (t := 23) (fun n => (opens_sl (B := 1) Try.underlying23 (by first | rfl | kernel_rfl) (by kernel_rfl) (fun n => (opens_int .u8 Try.underlying5)) n)) hsz rfl rfl h2
 obtain ⟨A2, c2, rfl, hc2, hr2⟩ := arg_slice Try.underlying23 (hval 2 23 v2 rfl rfl) K2
 have k3 := h3
 have lt3 : ∀ x ∈ p3, x.block < W.heap.size := by obtain ⟨m, hm⟩ := k3; exact DataW.trod_lt m _ _ _ hm
 obtain ⟨l3, K3, G3⟩ := open_arg (j := 3) (t := 24) (fun n => (opens_sl (B := 8) Try.underlying24 (by first | rfl | kernel_rfl) (by kernel_rfl) (fun n => (opens_int .i64 Try.underlying3)) n)) hsz rfl rfl h3
 obtain ⟨A3, c3, rfl, hc3, hr3⟩ := arg_slice Try.underlying24 (hval 3 24 v3 rfl rfl) K3
 obtain ⟨a4, rfl, rfl, rfl⟩ := open_bool Try.underlying4 (hval 4 4 v4 rfl rfl) h4
 clear hA0 hval0 hsz0 hsz
 have hk := Pure.DiskKeeps _ _ _ _ a4 G0 G1 G2 G3
 refine (X.leatlaw2_DiskKeeps.calls (w := W) (r := true) (hr0 := hr0) (hc0 := hc0) (hr2 := hr2) (hc2 := hc2) (hr3 := hr3) (hc3 := hc3) (h := hk)).mono fun e W' ⟨he, bel0⟩ => ?_
 have bel : Below W.heap.size W W' := by first | exact bel0 | (obtain ⟨nd, rfl⟩ := bel0; exact pw_below_drewN (Below.refl _ _) _)
 subst he
 exact ⟨_, rfl, _, _, _, [], _, [], hW', trodAll_mk1 (shut_bool Try.underlying4 _), (trodAll_cons_mk (Below.trod laidOut (by kernel_rfl) (of_decide_eq_true (by kernel_rfl)) k0 bel lt0) (trodAll_cons_mk (Below.trod laidOut (by kernel_rfl) (of_decide_eq_true (by kernel_rfl)) k1 bel lt1) (trodAll_cons_mk (Below.trod laidOut (by kernel_rfl) (of_decide_eq_true (by kernel_rfl)) k2 bel lt2) (trodAll_cons_mk (Below.trod laidOut (by kernel_rfl) (of_decide_eq_true (by kernel_rfl)) k3 bel lt3) (trodAll_cons_mk (shut_bool Try.underlying4 _) trodAll_mk0))))), rfl, bel.frame _, fun h => by cases h⟩
theorem over : Rows.diskKeepsRow.holds Try.pinned (OpenSpec.ofChange Rows.diskKeepsSpec) :=
 OpenClaim.holds_of_wide 3 Try.f3 rfl rfl rfl rfl rfl rfl rfl ⟨rfl, rfl, rfl, rfl, rfl⟩ rfl rfl rfl rfl rfl (by kernel_rfl) Try.func3 (by kernel_rfl)
  (of_decide_eq_true (by kernel_rfl)) (by unfold Func.isWrapper; first | (rw [if_pos (by decide +kernel)]; kernel_rfl) | (rw [if_neg (by decide +kernel)]; exact ⟨rfl, rfl⟩))
  (fun os started H enc _ => lifted os started H enc)
theorem proved : Rows.DiskKeepsSaid := over
#print axioms proved
end Go.Proofs.Ytihbgdobicokpaa.diskKeeps
namespace Go.Proofs.Ytihbgdobicokpaa
theorem diskKeeps_holds : Rows.DiskKeepsSaid := diskKeeps.proved
end Go.Proofs.Ytihbgdobicokpaa
