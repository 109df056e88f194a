/- Proofs towards the law JobOrder, joined into one text. No conditions beyond those typed. -/
import Derived.Test.YtpbmfdbfimcpjaaMJobOrder0
import Derived.Test.YtpbmfdbfimcpjaaMJobOrder9
import Derived.Test.YtpbmfdbfimcpjaaMJobOrder7
import Derived.Test.YtpbmfdbfimcpjaaRows
import Derived.WalkKit
import Derived.ProofKit
import Derived.OpenShut
import Derived.ShutString
import Derived.ChangeOld
import Derived.Below
import Derived.SizedLaws
import Derived.Carry
-- written by wip/myprint.py out of the translation
namespace Go.Proofs.Ytpbmfdbfimcpjaa.X
open Go.RowKit Go.Proofs.YtpbmfdbfimcpjaaW.PrintWords Go.Proofs.YtpbmfdbfimcpjaaW.PrintLast Go.Proofs.YtpbmfdbfimcpjaaW.PrintMore
attribute [local go_sem] max2_int min2_int max_two min_two max_three min_three max_four min_four   -- for this text's walks alone
set_option linter.unusedVariables false
set_option linter.unusedSimpArgs false

/-! ### leathelp_Place: function 10 -/
def leathelp_Place.f (a0 : Int) (a1 : Int) : Option (Int) := if a1 = 0 then (none) else (if (Int.tmod a0 a1) < 0 then (some (wrap64 ((Int.tmod a0 a1) + a1))) else (some (Int.tmod a0 a1)))
set_option maxHeartbeats 8000000 in
set_option maxRecDepth 100000 in
theorem leathelp_Place.calls (a0 : Int) (a1 : Int) (r : Int) (w : World) (h : leathelp_Place.f a0 a1 = some r) :
    Calls Try.prog 10 #[.int .i64 a0, .int .i64 a1] w fun e w' => e = .returned (.int .i64 r) ∧ Drawn0 w w' := by
  have H : (if a1 = 0 then (none) else (if (Int.tmod a0 a1) < 0 then (some (wrap64 ((Int.tmod a0 a1) + a1))) else (some (Int.tmod a0 a1)))) = some r := h
  clear h
  by_cases c3 : a1 = 0
  · rw [if_pos c3] at H
    exact absurd H (by simp)
  · rw [if_neg c3] at H
    have c3b0 : (a1 == 0) = false := beq_eq_false_iff_ne.mpr c3
    have c3b1 : (a1 != 0) = true := bne_iff_ne.mpr c3
    by_cases c4 : (Int.tmod a0 a1) < 0
    · rw [if_pos c4] at H
      have c4b0 : decide ((Int.tmod a0 a1) < 0) = true := decide_eq_true c4
      clear c4
      obtain rfl := Option.some.inj H
      go_enter Try.func10, Try.ntmps10
      go_wp2
      go_ret
      exact ⟨by first | rfl | (simp; done) | (simp [*]; done), by repeat (first | exact Drawn0.refl _ | apply Drawn0.step)⟩
    · rw [if_neg c4] at H
      have c4b0 : decide ((Int.tmod a0 a1) < 0) = false := decide_eq_false c4
      clear c4
      obtain rfl := Option.some.inj H
      go_enter Try.func10, Try.ntmps10
      go_wp2
      go_ret
      exact ⟨by first | rfl | (simp; done) | (simp [*]; done), by repeat (first | exact Drawn0.refl _ | apply Drawn0.step)⟩

end Go.Proofs.Ytpbmfdbfimcpjaa.X
namespace Go.Proofs.Ytpbmfdbfimcpjaa.Pure
open Go.RowKit Go.Proofs.Ytpbmfdbfimcpjaa.X Go.Proofs.YtpbmfdbfimcpjaaW.PrintWords
set_option linter.unusedVariables false
set_option linter.unusedSimpArgs false
set_option maxRecDepth 100000
theorem known_at : leatlaw8_known.f 60 = some true := by decide +kernel
theorem place_some (a : Int) (n : Nat) (h : 0 < n) (hn : n < 4294967296) : ∃ m : Nat, m < n ∧ leathelp_Place.f a n = some (m : Int) := by
  unfold leathelp_Place.f
  rw [if_neg (by omega)]
  have h1 := Int.tmod_lt_of_pos a (b := n) (by omega)
  have h2 : -(n : Int) < Int.tmod a n := Int.lt_tmod_of_pos a (by omega)
  by_cases hc : Int.tmod a n < 0
  · rw [if_pos hc]
    refine ⟨(Int.tmod a n + n).toNat, by omega, ?_⟩
    congr 1; unfold wrap64; omega
  · rw [if_neg hc]
    exact ⟨(Int.tmod a n).toNat, by omega, by congr 1; omega⟩
end Go.Proofs.Ytpbmfdbfimcpjaa.Pure
namespace Go.Proofs.Ytpbmfdbfimcpjaa.Pure
open Go.RowKit Go.Proofs.YtpbmfdbfimcpjaaW.PrintWords Go.Proofs.Ytpbmfdbfimcpjaa.X Go.Proofs.Ytpbmfdbfimcpjaa.Op
set_option linter.unusedVariables false
set_option linter.unusedSimpArgs false
theorem small34 : ∀ (n : Nat) (x : S34), G34 n x → SmallD n x
  | 0, _, h => h.elim
  | n + 1, x, ⟨_, _, _, h2, h3⟩ => ⟨h2, fun y hy => small34 n y (h3 y hy)⟩
theorem small38 {x : S38} (h : Good38 x) : SmallN x := by
  obtain ⟨_, ⟨_, h1, _⟩, _, ⟨n, hn⟩, _⟩ := h
  exact ⟨h1, n, small34 n _ hn⟩
theorem light7_some : ∀ (d : Nat) (e : S34), SmallD d e → ∀ a b, Sp Any (fun k => leatref7_Light.f k e.f0 e.f1 e.f2 a b)
  | 0, _, h, _, _ => h.elim
  | d + 1, e, ⟨hl, hx⟩, a, b => by
    have loop : ∀ (m i : Nat) (x7 : Int), e.f2.length = i + m → Sp Any (fun k => leatref7_Light.l0 k a b x7 (i : Int) e.f0 e.f1 e.f2) := by
      intro m
      induction m with
      | zero =>
        intro i x7 hi
        refine sp_step (f := ?f1) (fun k => ?h1) ?r1
        case h1 => conv => lhs; rw [leatref7_Light.l0, if_neg (by omega)]
        exact sp_now trivial
      | succ m ih =>
        intro i x7 hi
        have hlt : i < e.f2.length := by omega
        refine sp_step (f := ?f2) (fun k => ?h2) ?r2
        case h2 => conv => lhs; rw [leatref7_Light.l0, if_pos (by omega), rd34_at hlt, step_i hlt hl]
        exact sp_ite (fun _ => sp_ite (fun _ => sp_bind (light7_some d _ (hx _ (List.getElem_mem hlt)) _ _) (fun t _ => ih (i + 1) _ (by omega))) (fun h => absurd h (by omega))) (fun _ => sp_now trivial)
    have j0 : ∀ c, Sp Any (fun k => leatref7_Light.j0 k a b c e.f0 e.f1 e.f2) := by
      intro c
      refine sp_step (f := ?f3) (fun k => ?h3) ?r3
      case h3 => conv => lhs; rw [leatref7_Light.j0]
      exact sp_ite (fun _ => sp_now trivial) (fun _ => loop e.f2.length 0 _ (by omega))
    refine sp_step (f := ?f4) (fun k => ?h4) ?r4
    case h4 => conv => lhs; rw [leatref7_Light.f]
    exact sp_ite (fun _ => j0 _) (fun _ => j0 _)
theorem light_some (l : List S38) (hs : ∀ x ∈ l, SmallN x) : Sp (fun b => b = true → l.length ≤ 40) (fun k => leatlaw8_light.f k l) := by
  have loop : l.length ≤ 40 → ∀ (m i : Nat), l.length = i + m → Sp (fun b => b = true → l.length ≤ 40) (fun k => leatlaw8_light.l0 k (i : Int) l) := by
    intro h40 m
    induction m with
    | zero =>
      intro i hi
      refine sp_step (f := ?f1) (fun k => ?h1) ?r1
      case h1 => conv => lhs; rw [leatlaw8_light.l0, if_neg (by omega)]
      exact sp_now (fun _ => h40)
    | succ m ih =>
      intro i hi
      have hlt : i < l.length := by omega
      obtain ⟨_, d, hd⟩ := hs _ (List.getElem_mem hlt)
      refine sp_step (f := ?f2) (fun k => ?h2) ?r2
      case h2 => conv => lhs; rw [leatlaw8_light.l0, if_pos (by omega), if_pos (by omega), rd38_at hlt, step_i hlt (by omega)]
      exact sp_ite (fun _ => sp_now (by intro h; cases h)) (fun _ => sp_bind (light7_some d _ hd _ _) (fun t _ => sp_ite (fun _ => sp_now (by intro h; cases h)) (fun _ => ih (i + 1) (by omega))))
  unfold leatlaw8_light.f
  exact sp_ite (fun _ => sp_now (by intro h; cases h)) (fun h => loop (by omega) l.length 0 (by omega))

theorem order_loop (l : List S38) (ord : List Int) (hl : l.length ≤ 12) (hol : ord.length = l.length) (hs : ∀ x ∈ l, SmallN x) :
    ∀ (os : List Int) (i : Nat) (ins : List Bool), ord.length = i + os.length → (∀ j (h : j < os.length), ord[i + j]? = some os[j]) → ins.length = l.length → Tr l ins os → Ev (fun k => leatlaw8_JobOrder.l0 k ins ord (i : Int) l) true
  | [], i, ins, hi, ho, hin, _ => by
    refine Ev.step (f := ?f1) (fun k => ?h1) ?r1
    case h1 => conv => lhs; rw [leatlaw8_JobOrder.l0, if_neg (by simp at hi; omega)]
    exact ev_now (by simp [hol, hin])
  | o :: os, i, ins, hi, ho, hin, ⟨n, hon, hn, hr, ht⟩ => by
    rw [List.length_cons] at hi
    have hlt : i < ord.length := by omega
    have h0 := ho 0 (by simp)
    rw [Nat.add_zero, List.getElem?_eq_getElem hlt] at h0
    have hrd : rd ord (i : Int) = (n : Int) := (rd_at hlt).trans ((Option.some.inj h0).trans hon)
    have hst : wrap64 ((i : Int) + 1) = ((i + 1 : Nat) : Int) := step_i hlt (by omega)
    have hno := ready_not hr
    have hmay := ready_may hn hr
    have hsm := (hs _ (List.getElem_mem hn)).1
    have inner : ∀ (m j : Nat), l[n].f1.length = j + m → Ev (fun k => leatlaw8_JobOrder.l1 k ins ord (i : Int) l[n].f1 (j : Int) l) true := by
      intro m
      induction m with
      | zero =>
        intro j hj
        refine Ev.step (f := ?f2) (fun k => ?h2) ?r2
        case h2 => conv => lhs; rw [leatlaw8_JobOrder.l1, if_neg (by omega), if_pos (by omega), if_pos (by omega), hrd, if_pos (by omega), if_pos (by omega), hst]
        exact order_loop l ord hl hol hs os (i + 1) (ins.set n true) (by omega) (fun j' hj' => by
          have := ho (j' + 1) (by rw [List.length_cons]; omega)
          rw [show i + 1 + j' = i + (j' + 1) by omega]; simpa using this) (by simp [hin]) ht
      | succ m ih =>
        intro j hj
        have hjlt : j < l[n].f1.length := by omega
        have hx := hmay _ (List.getElem_mem hjlt)
        refine Ev.step (f := ?f3) (fun k => ?h3) ?r3
        case h3 => conv => lhs; rw [leatlaw8_JobOrder.l1, if_pos (by omega), if_pos (by omega), rd_at hjlt, if_pos (by omega), if_pos (by omega), if_pos (show rdOf false ins (l[n].f1[j]) = true from hx.2.2), step_i hjlt hsm]
        exact ih (j + 1) (by omega)
    have h2 : Ev (fun k => leatlaw8_JobOrder.j2 k ins ord (i : Int) false l) true := by
      refine Ev.step (f := ?f4) (fun k => ?h4) ?r4
      case h4 => conv => lhs; rw [leatlaw8_JobOrder.j2, if_neg (by decide), if_pos (by omega), if_pos (by omega), hrd, if_pos (by omega), if_pos (by omega), rd38_at hn]
      exact inner l[n].f1.length 0 (by omega)
    refine Ev.step (f := ?f5) (fun k => ?h5) ?r5
    case h5 => conv => lhs; rw [leatlaw8_JobOrder.l0, if_pos (by omega), if_pos (by omega), hrd, if_neg (by omega), if_neg (by omega), if_pos (by omega), if_pos (by omega), show rdOf false ins (n : Int) = false from hno]
    exact h2
theorem JobOrder : JobOrderPure := by
  intro l ⟨hl, _, hx⟩
  have hl' : l.length < 17592186044416 := by omega
  have hs : ∀ x ∈ l, SmallN x := fun x h => small38 (hx x h)
  have hT : ∀ b, b = true → Ev (fun k => leatlaw8_JobOrder.j0 k b l) true := by
    intro b hb
    refine Ev.step (f := ?f1) (fun k => ?h1) ?r1
    case h1 => conv => lhs; rw [leatlaw8_JobOrder.j0, if_pos hb]
    exact ev_now rfl
  have key : Ev (fun k => leatlaw8_JobOrder.f k l) true := by
    unfold leatlaw8_JobOrder.f
    refine Ev.bind (Ev.of (fun k => leatlaw8_known.mono k) known_at) ?_
    refine ev_pos rfl ?_
    obtain ⟨b, _, hb⟩ := light_some l hs
    refine Ev.bind hb ?_
    by_cases hbt : b = true
    · refine ev_pos hbt ?_
      obtain ⟨c, hc, he⟩ := Check_some l hl' hs
      refine Ev.bind he ?_
      by_cases h0 : c = 0
      · obtain ⟨h1, h2⟩ := hc h0
        subst h0
        have hol := order_len l
        refine Ev.step (f := ?f2) (fun k => ?h2) ?r2
        case h2 => conv => lhs; rw [leatlaw8_JobOrder.j0, if_neg (by decide), if_pos (by omega), if_pos (by omega)]
        refine Ev.bind (a := jobOrder l) (Ev.congr (fun k => by rw [job_Order.f, if_pos hl']) (Ev.now _)) ?_
        exact order_loop l (jobOrder l) h2 (by omega) hs (jobOrder l) 0 _ (by omega) (fun j h => by rw [Nat.zero_add]; exact List.getElem?_eq_getElem h) (by simp) (order_tr l)
      · exact hT _ (by simpa using h0)
    · exact ev_neg hbt (hT true rfl)
  exact key.rounds
end Go.Proofs.Ytpbmfdbfimcpjaa.Pure
-- written by wip/myprint.py out of the translation
namespace Go.Proofs.Ytpbmfdbfimcpjaa.jobOrder
open Go.ChangeShapes Go.WideShapes Go.ChangeAt Go.RowKit Go.Proofs.YtpbmfdbfimcpjaaW.PrintWords
open Go.ChangeMaps (open_string shut_string)
open Go.Proofs.Ytpbmfdbfimcpjaa.Op Go.Proofs.Ytpbmfdbfimcpjaa.X
set_option linter.unusedVariables false
theorem own : ownKnob Try.prog.godebug = none := by kernel_rfl
theorem laidOut : laidOutB Try.prog = true := by kernel_rfl
set_option maxRecDepth 100000 in
theorem lifted (os : Os) (started : os.Started) (H : Type) (enc : TypeId × Value → H) :
    ReturnsInHanded {} Try.checked os 3 .any (Rows.jobOrderSpec.pre6 enc Try.prog Try.f3 Rows.jobOrderRow.domain false) (Rows.jobOrderSpec.post enc Try.prog Try.f3 false true false false) := by
  refine returnsInHanded_of_change_sized (C := Try.checked) own started (by kernel_rfl) Try.func3
    (ChangeSpec.witness6 (enc := enc) (C := Try.checked) false ⟨#[], #[.agg #[.slice none 0 0]], []⟩ 8 (by kernel_rfl) (by kernel_rfl) (by kernel_rfl) (by kernel_rfl)) ?_
  intro W base args ds gs before hval0 hW hcnd hsz0 _
  have hsz : (DataW.weightsEach Try.prog (Try.f3.params.toList ++ Rows.jobOrderSpec.plain.varTypes Try.prog) (ds ++ gs)).all (· ≤ reachBytes) = true := hsz0
  have hval : ∀ (j : Nat) t v, Try.f3.params[j]? = some t → args[j]? = some v → Value.okWide Try.prog W .any base t v := hval0
  have hW' := hW
  obtain ⟨p, q, hA0, hV, rfl, hfz, hnd⟩ := hW
  have hA : DataW.TrodAll enc Try.prog W 0 (fun _ => true) true Try.f3.params.toList args.toList ds p := hA0
  rw [Try.params3] at hA hval hsz
  obtain ⟨v0, vs0, d0, ds0, p0, q0, hargs, rfl, rfl, h0, r0⟩ := trodAll_cons hA
  obtain ⟨rfl, rfl, rfl⟩ := trodAll_nil r0
  obtain rfl : args = #[v0] := by cases args; simp_all
  obtain ⟨rfl, rfl⟩ := trodVars_none hV
  have k0 := h0
  have lt0 : ∀ x ∈ p0, x.block < W.heap.size := by obtain ⟨m, hm⟩ := k0; exact DataW.trod_lt m _ _ _ hm
  obtain ⟨x0, K0, G0⟩ := open_arg (d := (Kd.slice 38 k38)) (j := 0) (t := 24) (fun n => (opens_st Try.underlying24 (by first | rfl | kernel_rfl) (fun n => (opens_one (by first | rfl | kernel_rfl) (by first | rfl | kernel_rfl) (opens_sl (B := 112) Try.underlying22 (by first | rfl | kernel_rfl) (by kernel_rfl) (fun n => (opens38 n)) n))) n)) hsz rfl rfl h0
  generalize hcs0 : v0.cells.toList = cs0 at K0
  have K_l0_0 := K0
  have G_l0_0 := G0
  obtain ⟨l0_0, hx_0⟩ : ∃ z, z = x0 := ⟨_, rfl⟩
  subst hx_0
  obtain ⟨Al0_0, cl0_0, rfl, hcl0_0, hrl0_0⟩ := K_l0_0
  obtain rfl := arg_struct Try.underlying24 (hval 0 24 v0 rfl rfl) hcs0
  clear hA0 hval0 hsz0 hsz
  obtain ⟨k, hk⟩ := Pure.JobOrder _ G_l0_0
  refine (X.leatlaw8_JobOrder.calls (w := W) (r := true) (hr0_0 := hrl0_0) (hc0_0 := hcl0_0) (h := hk)).mono fun e W' ⟨he, bel0⟩ => ?_
  have bel : Below W.heap.size W W' := by first | exact bel0 | (obtain ⟨nd, rfl⟩ := bel0; exact pw_below_drewN (Below.refl _ _) _)
  subst he
  exact ⟨_, rfl, _, _, _, [], _, [], hW', trodAll_mk1 (shut_bool Try.underlying4 _), (trodAll_cons_mk (Below.trod laidOut (by kernel_rfl) (of_decide_eq_true (by kernel_rfl)) k0 bel lt0) trodAll_mk0), rfl, bel.frame _, fun h => by cases h⟩
theorem over : Rows.jobOrderRow.holds Try.pinned (OpenSpec.ofChange Rows.jobOrderSpec) :=
  OpenClaim.holds_of_wide 3 Try.f3 rfl rfl rfl rfl rfl rfl rfl ⟨rfl, rfl, rfl, rfl, rfl⟩ rfl rfl rfl rfl rfl (by kernel_rfl) Try.func3 (by kernel_rfl)
    (of_decide_eq_true (by kernel_rfl)) (by unfold Func.isWrapper; first | (rw [if_pos (by decide +kernel)]; kernel_rfl) | (rw [if_neg (by decide +kernel)]; exact ⟨rfl, rfl⟩))
    (fun os started H enc _ => lifted os started H enc)
theorem proved : Rows.JobOrderSaid := over
#print axioms proved
end Go.Proofs.Ytpbmfdbfimcpjaa.jobOrder
namespace Go.Proofs.Ytpbmfdbfimcpjaa
/-- The row, under a short name, for the claim. -/
theorem jobOrder_holds : Rows.JobOrderSaid := jobOrder.proved
end Go.Proofs.Ytpbmfdbfimcpjaa
