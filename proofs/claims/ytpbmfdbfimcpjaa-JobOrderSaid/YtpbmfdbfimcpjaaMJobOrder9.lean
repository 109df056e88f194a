/- Proofs towards the law JobOrder, joined into one text. No conditions beyond those typed. -/
import Derived.Test.YtpbmfdbfimcpjaaMJobOrder0
import Derived.Test.YtpbmfdbfimcpjaaMJobOrder6
import Derived.Test.YtpbmfdbfimcpjaaMJobOrder7
import Derived.Test.YtpbmfdbfimcpjaaMJobOrder8
import Derived.Test.YtpbmfdbfimcpjaaMJobOrder4
import Derived.Test.YtpbmfdbfimcpjaaWMore
import Derived.Test.YtpbmfdbfimcpjaaMJobOrder2
-- written by wip/myprint.py out of the translation
namespace Go.Proofs.Ytpbmfdbfimcpjaa.X
open Go.RowKit Go.Proofs.YtpbmfdbfimcpjaaW.PrintWords Go.Proofs.YtpbmfdbfimcpjaaW.PrintLast Go.Proofs.YtpbmfdbfimcpjaaW.PrintMore
attribute [local go_sem] max2_int min2_int max_two min_two max_three min_three max_four min_four   -- for this text's walks alone
set_option linter.unusedVariables false
set_option linter.unusedSimpArgs false

/-! ### leatlaw8_JobOrder: function 3 -/
mutual
def leatlaw8_JobOrder.j0 : Nat → Bool → List (S38) → Option (Bool)
  | 0, _, _ => none
  | k + 1, x17, x230000 => if x17 = true then (some true) else (if 0 ≤ (x230000.length : Int) then (if ((x230000.length : Int) : Int).toNat ≤ 281474976710656 then ((job_Order.f x230000).bind fun t236 => (leatlaw8_JobOrder.l0 k (List.replicate ((x230000.length : Int) : Int).toNat false) t236 0 x230000)) else (none)) else (none))
def leatlaw8_JobOrder.l0 : Nat → List Bool → List Int → Int → List (S38) → Option (Bool)
  | 0, _, _, _, _ => none
  | k + 1, x3, x4, x5, x230000 => if x5 < (x4.length : Int) then (if 0 ≤ x5 then (if (rd x4 x5) < 0 then (leatlaw8_JobOrder.j2 k x3 x4 x5 true x230000) else (if (rd x4 x5) ≥ (x3.length : Int) then (leatlaw8_JobOrder.j2 k x3 x4 x5 true x230000) else (if 0 ≤ (rd x4 x5) then (if (rd x4 x5) < (x3.length : Int) then (leatlaw8_JobOrder.j2 k x3 x4 x5 (rdOf false x3 (rd x4 x5)) x230000) else (none)) else (none)))) else (none)) else (some ((x4.length : Int) == (x3.length : Int)))
def leatlaw8_JobOrder.j2 : Nat → List Bool → List Int → Int → Bool → List (S38) → Option (Bool)
  | 0, _, _, _, _, _ => none
  | k + 1, x3, x4, x5, x52, x230000 => if x52 = true then (none) else (if 0 ≤ x5 then (if x5 < (x4.length : Int) then (if 0 ≤ (rd x4 x5) then (if (rd x4 x5) < (x230000.length : Int) then (leatlaw8_JobOrder.l1 k x3 x4 x5 ((rd_T38 x230000 (rd x4 x5)).f1) 0 x230000) else (none)) else (none)) else (none)) else (none))
def leatlaw8_JobOrder.l1 : Nat → List Bool → List Int → Int → List Int → Int → List (S38) → Option (Bool)
  | 0, _, _, _, _, _, _ => none
  | k + 1, x3, x4, x5, x6, x7, x230000 => if x7 < (x6.length : Int) then (if 0 ≤ x7 then (if 0 ≤ (rd x6 x7) then (if (rd x6 x7) < (x3.length : Int) then (if (rdOf false x3 (rd x6 x7) = true) then (leatlaw8_JobOrder.l1 k x3 x4 x5 x6 (wrap64 (x7 + 1)) x230000) else (none)) else (none)) else (none)) else (none)) else (if 0 ≤ x5 then (if x5 < (x4.length : Int) then (if 0 ≤ (rd x4 x5) then (if (rd x4 x5) < (x3.length : Int) then (leatlaw8_JobOrder.l0 k (x3.set ((rd x4 x5) : Int).toNat true) x4 (wrap64 (x5 + 1)) x230000) else (none)) else (none)) else (none)) else (none))
end
def leatlaw8_JobOrder.f (k : Nat) (l0_0 : List (S38)) : Option (Bool) := (leatlaw8_known.f k).bind fun t230 => (if t230 = true then ((leatlaw8_light.f k l0_0).bind fun t231 => (if t231 = true then ((job_Check.f k l0_0).bind fun t232 => (leatlaw8_JobOrder.j0 k (t232 != 0) l0_0)) else (leatlaw8_JobOrder.j0 k true l0_0))) else (none))
theorem leatlaw8_JobOrder.mono_l : ∀ k, (∀ y0 y1, LeO (leatlaw8_JobOrder.j0 k y0 y1) (leatlaw8_JobOrder.j0 (k + 1) y0 y1)) ∧ (∀ y0 y1 y2 y3, LeO (leatlaw8_JobOrder.l0 k y0 y1 y2 y3) (leatlaw8_JobOrder.l0 (k + 1) y0 y1 y2 y3)) ∧ (∀ y0 y1 y2 y3 y4, LeO (leatlaw8_JobOrder.j2 k y0 y1 y2 y3 y4) (leatlaw8_JobOrder.j2 (k + 1) y0 y1 y2 y3 y4)) ∧ (∀ y0 y1 y2 y3 y4 y5, LeO (leatlaw8_JobOrder.l1 k y0 y1 y2 y3 y4 y5) (leatlaw8_JobOrder.l1 (k + 1) y0 y1 y2 y3 y4 y5))
  | 0 => ⟨fun _ _ r h => by simp [leatlaw8_JobOrder.j0] at h, fun _ _ _ _ r h => by simp [leatlaw8_JobOrder.l0] at h, fun _ _ _ _ _ r h => by simp [leatlaw8_JobOrder.j2] at h, fun _ _ _ _ _ _ r h => by simp [leatlaw8_JobOrder.l1] at h⟩
  | k + 1 => by
    obtain ⟨ih0, ih1, ih2, ih3⟩ := leatlaw8_JobOrder.mono_l k
    refine ⟨?_, ?_, ?_, ?_⟩
    · intro y0 y1
      unfold leatlaw8_JobOrder.j0
      repeat' first
      | (with_reducible exact ih0 _ _)
      | (with_reducible exact ih1 _ _ _ _)
      | (with_reducible exact ih2 _ _ _ _ _)
      | (with_reducible exact ih3 _ _ _ _ _ _)
      | (with_reducible exact job_Check.mono _ _)
      | (with_reducible exact leatlaw8_known.mono _)
      | (with_reducible exact leatlaw8_light.mono _ _)
      | (with_reducible exact LeO.refl _)
      | (with_reducible exact LeO.none _)
      | (with_reducible refine LeO.ite ?_ ?_)
      | (with_reducible refine LeO.bind ?_ (fun _ => ?_))
      | exact ih0 _ _
      | exact ih1 _ _ _ _
      | exact ih2 _ _ _ _ _
      | exact ih3 _ _ _ _ _ _
      | exact job_Check.mono _ _
      | exact leatlaw8_known.mono _
      | exact leatlaw8_light.mono _ _
      | exact LeO.none _
      | refine LeO.ite ?_ ?_
      | refine LeO.bind ?_ (fun _ => ?_)
    · intro y0 y1 y2 y3
      unfold leatlaw8_JobOrder.l0
      repeat' first
      | (with_reducible exact ih0 _ _)
      | (with_reducible exact ih1 _ _ _ _)
      | (with_reducible exact ih2 _ _ _ _ _)
      | (with_reducible exact ih3 _ _ _ _ _ _)
      | (with_reducible exact job_Check.mono _ _)
      | (with_reducible exact leatlaw8_known.mono _)
      | (with_reducible exact leatlaw8_light.mono _ _)
      | (with_reducible exact LeO.refl _)
      | (with_reducible exact LeO.none _)
      | (with_reducible refine LeO.ite ?_ ?_)
      | (with_reducible refine LeO.bind ?_ (fun _ => ?_))
      | exact ih0 _ _
      | exact ih1 _ _ _ _
      | exact ih2 _ _ _ _ _
      | exact ih3 _ _ _ _ _ _
      | exact job_Check.mono _ _
      | exact leatlaw8_known.mono _
      | exact leatlaw8_light.mono _ _
      | exact LeO.none _
      | refine LeO.ite ?_ ?_
      | refine LeO.bind ?_ (fun _ => ?_)
    · intro y0 y1 y2 y3 y4
      unfold leatlaw8_JobOrder.j2
      repeat' first
      | (with_reducible exact ih0 _ _)
      | (with_reducible exact ih1 _ _ _ _)
      | (with_reducible exact ih2 _ _ _ _ _)
      | (with_reducible exact ih3 _ _ _ _ _ _)
      | (with_reducible exact job_Check.mono _ _)
      | (with_reducible exact leatlaw8_known.mono _)
      | (with_reducible exact leatlaw8_light.mono _ _)
      | (with_reducible exact LeO.refl _)
      | (with_reducible exact LeO.none _)
      | (with_reducible refine LeO.ite ?_ ?_)
      | (with_reducible refine LeO.bind ?_ (fun _ => ?_))
      | exact ih0 _ _
      | exact ih1 _ _ _ _
      | exact ih2 _ _ _ _ _
      | exact ih3 _ _ _ _ _ _
      | exact job_Check.mono _ _
      | exact leatlaw8_known.mono _
      | exact leatlaw8_light.mono _ _
      | exact LeO.none _
      | refine LeO.ite ?_ ?_
      | refine LeO.bind ?_ (fun _ => ?_)
    · intro y0 y1 y2 y3 y4 y5
      unfold leatlaw8_JobOrder.l1
      repeat' first
      | (with_reducible exact ih0 _ _)
      | (with_reducible exact ih1 _ _ _ _)
      | (with_reducible exact ih2 _ _ _ _ _)
      | (with_reducible exact ih3 _ _ _ _ _ _)
      | (with_reducible exact job_Check.mono _ _)
      | (with_reducible exact leatlaw8_known.mono _)
      | (with_reducible exact leatlaw8_light.mono _ _)
      | (with_reducible exact LeO.refl _)
      | (with_reducible exact LeO.none _)
      | (with_reducible refine LeO.ite ?_ ?_)
      | (with_reducible refine LeO.bind ?_ (fun _ => ?_))
      | exact ih0 _ _
      | exact ih1 _ _ _ _
      | exact ih2 _ _ _ _ _
      | exact ih3 _ _ _ _ _ _
      | exact job_Check.mono _ _
      | exact leatlaw8_known.mono _
      | exact leatlaw8_light.mono _ _
      | exact LeO.none _
      | refine LeO.ite ?_ ?_
      | refine LeO.bind ?_ (fun _ => ?_)
theorem leatlaw8_JobOrder.mono : ∀ a0 k, LeO (leatlaw8_JobOrder.f k a0) (leatlaw8_JobOrder.f (k + 1) a0) := by
  intro a0 k
  obtain ⟨ih0, ih1, ih2, ih3⟩ := leatlaw8_JobOrder.mono_l k
  unfold leatlaw8_JobOrder.f
  repeat' first
      | (with_reducible exact ih0 _ _)
      | (with_reducible exact ih1 _ _ _ _)
      | (with_reducible exact ih2 _ _ _ _ _)
      | (with_reducible exact ih3 _ _ _ _ _ _)
      | (with_reducible exact job_Check.mono _ _)
      | (with_reducible exact leatlaw8_known.mono _)
      | (with_reducible exact leatlaw8_light.mono _ _)
      | (with_reducible exact LeO.refl _)
      | (with_reducible exact LeO.none _)
      | (with_reducible refine LeO.ite ?_ ?_)
      | (with_reducible refine LeO.bind ?_ (fun _ => ?_))
      | exact ih0 _ _
      | exact ih1 _ _ _ _
      | exact ih2 _ _ _ _ _
      | exact ih3 _ _ _ _ _ _
      | exact job_Check.mono _ _
      | exact leatlaw8_known.mono _
      | exact leatlaw8_light.mono _ _
      | exact LeO.none _
      | refine LeO.ite ?_ ?_
      | refine LeO.bind ?_ (fun _ => ?_)
set_option maxHeartbeats 8000000 in
set_option maxRecDepth 100000 in
theorem leatlaw8_JobOrder.calls (k : Nat) (A0_0 : Option Addr) (c0_0 : Nat) (l0_0 : List (S38)) (r : Bool) (w : World) (hr0_0 : Kd.C k38 w A0_0 l0_0.length l0_0) (hc0_0 : l0_0.length ≤ c0_0) (h : leatlaw8_JobOrder.f k l0_0 = some r) :
    Calls Try.prog 3 #[.agg #[.slice A0_0 l0_0.length c0_0]] w fun e w' => e = .returned (.bool r) ∧ Below w.heap.size w w' := by
  have hu24 := Try.underlying24
  have HR0_0 := Aside0.mk hr0_0
  have HC0_0 := Aside0.mk hc0_0
  clear hr0_0 hc0_0
  have HB := Aside0.mk (Below.refl w.heap.size w)
  have H : ((leatlaw8_known.f k).bind fun t230 => (if t230 = true then ((leatlaw8_light.f k l0_0).bind fun t231 => (if t231 = true then ((job_Check.f k l0_0).bind fun t232 => (leatlaw8_JobOrder.j0 k (t232 != 0) l0_0)) else (leatlaw8_JobOrder.j0 k true l0_0))) else (none))) = some r := h
  clear h
  replace H := Option.bind_eq_some_iff.mp H
  obtain ⟨t230, A20, H⟩ := H
  replace H : (if t230 = true then ((leatlaw8_light.f k l0_0).bind fun t231 => (if t231 = true then ((job_Check.f k l0_0).bind fun t232 => (leatlaw8_JobOrder.j0 k (t232 != 0) l0_0)) else (leatlaw8_JobOrder.j0 k true l0_0))) else (none)) = some r := H
  have A2 := Aside0.mk A20
  clear A20
  by_cases c3 : t230 = true
  · subst c3
    have H1 : ((leatlaw8_light.f k l0_0).bind fun t231 => (if t231 = true then ((job_Check.f k l0_0).bind fun t232 => (leatlaw8_JobOrder.j0 k (t232 != 0) l0_0)) else (leatlaw8_JobOrder.j0 k true l0_0))) = some r := by rw [if_pos rfl] at H; exact H
    clear H
    have H := H1
    clear H1
    have HC4 := Aside0.mk H
    clear H
    go_enter Try.func3, Try.ntmps3
    go_upto_region 3 with (first | ((with_reducible refine gate_dst (N := 1) rfl ?_); (try (refine gate_guard (by rfl) ?_; dsimp only)); refine box_event ?hg (N := 1) ?hd (cs := #[.slice A0_0 l0_0.length c0_0]) (t := 24) ?hr ?_; (case hd => rfl); (case hg => rfl); (case hr => first | (go_simp; done) | (go_simp; rfl)); intro gb229 hg w5 hbox hb; have n0_ := Aside0.mk (below_step (by repeat (first | (with_reducible first | exact HB.out | apply below_alloc | apply pw_below_drewN | apply below_drew1) | exact HB.out)) hb); have n1_ := Aside0.mk (hbox); have n2_ := Aside0.mk ((by rw [hg]; exact (below_size (by repeat (first | (with_reducible first | exact HB.out | apply below_alloc | apply pw_below_drewN | apply below_drew1) | exact HB.out))) : w.heap.size ≤ gb229)); have n3_ := Aside0.mk ((by rw [hg]; exact (below_size (by repeat (first | (with_reducible first | exact HB.out | apply below_alloc | apply pw_below_drewN | apply below_drew1) | exact HB.out))) : w.heap.size ≤ gb229)); clear HB; have HB := n0_; have BK229 := n1_; have GW229 := n2_; have GE229 := n3_; clear n0_ n1_ n2_ n3_; clear hb hbox hg) | (go_at_call 6; (with_reducible refine (leatlaw8_known.calls k  true _ A2.out).mono ?_); rintro e w6 ⟨rfl, hb⟩; have n0_ := Aside0.mk (blk_below (g := gb229) (o := .cells #[.slice A0_0 l0_0.length c0_0] 24 (0, 0)) (by (with_reducible repeat (first | refine blk_drewN ?_ _ | refine blk_drew ?_ | refine blk_alloc ?_ _)); exact BK229.out) hb); have n1_ := Aside0.mk (below_step (by repeat (first | (with_reducible first | exact HB.out | apply below_alloc | apply pw_below_drewN | apply below_drew1 | refine below_set ?_ GE229.out) | exact HB.out)) hb); clear BK229; clear HB; have BK229 := n0_; have HB := n1_; clear n0_ n1_; (try clear hb); (try clear hb2); (try clear hk); (try clear hi)))
    repeat (go_quiet (first | ((with_reducible refine gate_dst (N := 1) rfl ?_); (try (refine gate_guard (by rfl) ?_; dsimp only)); refine box_event ?hg (N := 1) ?hd (cs := #[.slice A0_0 l0_0.length c0_0]) (t := 24) ?hr ?_; (case hd => rfl); (case hg => rfl); (case hr => first | (go_simp; done) | (go_simp; rfl)); intro gb229 hg w5 hbox hb; have n0_ := Aside0.mk (below_step (by repeat (first | (with_reducible first | exact HB.out | apply below_alloc | apply pw_below_drewN | apply below_drew1) | exact HB.out)) hb); have n1_ := Aside0.mk (hbox); have n2_ := Aside0.mk ((by rw [hg]; exact (below_size (by repeat (first | (with_reducible first | exact HB.out | apply below_alloc | apply pw_below_drewN | apply below_drew1) | exact HB.out))) : w.heap.size ≤ gb229)); have n3_ := Aside0.mk ((by rw [hg]; exact (below_size (by repeat (first | (with_reducible first | exact HB.out | apply below_alloc | apply pw_below_drewN | apply below_drew1) | exact HB.out))) : w.heap.size ≤ gb229)); clear HB; have HB := n0_; have BK229 := n1_; have GW229 := n2_; have GE229 := n3_; clear n0_ n1_ n2_ n3_; clear hb hbox hg) | (go_at_call 6; (with_reducible refine (leatlaw8_known.calls k  true _ A2.out).mono ?_); rintro e w6 ⟨rfl, hb⟩; have n0_ := Aside0.mk (blk_below (g := gb229) (o := .cells #[.slice A0_0 l0_0.length c0_0] 24 (0, 0)) (by (with_reducible repeat (first | refine blk_drewN ?_ _ | refine blk_drew ?_ | refine blk_alloc ?_ _)); exact BK229.out) hb); have n1_ := Aside0.mk (below_step (by repeat (first | (with_reducible first | exact HB.out | apply below_alloc | apply pw_below_drewN | apply below_drew1 | refine below_set ?_ GE229.out) | exact HB.out)) hb); clear BK229; clear HB; have BK229 := n0_; have HB := n1_; clear n0_ n1_; (try clear hb); (try clear hb2); (try clear hk); (try clear hi))); go_upto_region 3 with (first | ((with_reducible refine gate_dst (N := 1) rfl ?_); (try (refine gate_guard (by rfl) ?_; dsimp only)); refine box_event ?hg (N := 1) ?hd (cs := #[.slice A0_0 l0_0.length c0_0]) (t := 24) ?hr ?_; (case hd => rfl); (case hg => rfl); (case hr => first | (go_simp; done) | (go_simp; rfl)); intro gb229 hg w5 hbox hb; have n0_ := Aside0.mk (below_step (by repeat (first | (with_reducible first | exact HB.out | apply below_alloc | apply pw_below_drewN | apply below_drew1) | exact HB.out)) hb); have n1_ := Aside0.mk (hbox); have n2_ := Aside0.mk ((by rw [hg]; exact (below_size (by repeat (first | (with_reducible first | exact HB.out | apply below_alloc | apply pw_below_drewN | apply below_drew1) | exact HB.out))) : w.heap.size ≤ gb229)); have n3_ := Aside0.mk ((by rw [hg]; exact (below_size (by repeat (first | (with_reducible first | exact HB.out | apply below_alloc | apply pw_below_drewN | apply below_drew1) | exact HB.out))) : w.heap.size ≤ gb229)); clear HB; have HB := n0_; have BK229 := n1_; have GW229 := n2_; have GE229 := n3_; clear n0_ n1_ n2_ n3_; clear hb hbox hg) | (go_at_call 6; (with_reducible refine (leatlaw8_known.calls k  true _ A2.out).mono ?_); rintro e w6 ⟨rfl, hb⟩; have n0_ := Aside0.mk (blk_below (g := gb229) (o := .cells #[.slice A0_0 l0_0.length c0_0] 24 (0, 0)) (by (with_reducible repeat (first | refine blk_drewN ?_ _ | refine blk_drew ?_ | refine blk_alloc ?_ _)); exact BK229.out) hb); have n1_ := Aside0.mk (below_step (by repeat (first | (with_reducible first | exact HB.out | apply below_alloc | apply pw_below_drewN | apply below_drew1 | refine below_set ?_ GE229.out) | exact HB.out)) hb); clear BK229; clear HB; have BK229 := n0_; have HB := n1_; clear n0_ n1_; (try clear hb); (try clear hb2); (try clear hk); (try clear hi))))
    (try simp only [Act.put, List.setIfInBounds_toArray, List.set_cons_zero, List.set_cons_succ])
    go_cut [17] (fun v17 wc => ∃ (kq : Nat) (x17_3 : Bool), v17 = .bool x17_3 ∧ Aside0 (leatlaw8_JobOrder.j0 kq x17_3 l0_0 = some r) ∧ Aside0 (kq ≤ k) ∧ Aside0 (wc.heap[gb229]? = some (.cells #[(.slice A0_0 l0_0.length c0_0)] 24 (0, 0))) ∧ Aside0 (Below w.heap.size w wc))
    case first =>
      have H := HC4.out
      clear HC4
      replace H := Option.bind_eq_some_iff.mp H
      obtain ⟨t231, A70, H⟩ := H
      replace H : (if t231 = true then ((job_Check.f k l0_0).bind fun t232 => (leatlaw8_JobOrder.j0 k (t232 != 0) l0_0)) else (leatlaw8_JobOrder.j0 k true l0_0)) = some r := H
      have A7 := Aside0.mk A70
      clear A70
      by_cases c8 : t231 = true
      · subst c8
        have H1 : ((job_Check.f k l0_0).bind fun t232 => (leatlaw8_JobOrder.j0 k (t232 != 0) l0_0)) = some r := by rw [if_pos rfl] at H; exact H
        clear H
        have H := H1
        clear H1
        replace H := Option.bind_eq_some_iff.mp H
        obtain ⟨t232, A90, H⟩ := H
        replace H : (leatlaw8_JobOrder.j0 k (t232 != 0) l0_0) = some r := H
        have A9 := Aside0.mk A90
        clear A90
        have H' := Aside0.mk H
        clear H
        have hcz10_0 : w6.cell? ⟨gb229, 0, none⟩ = some (.slice A0_0 l0_0.length c0_0) := (blk_cell BK229.out 0).trans rfl
        have hfz10_0 := blk_frozen BK229.out 0
        go_wp2_with (first | (go_at_call 7; (with_reducible refine (leatlaw8_light.calls k _ _ l0_0 true _ ?side1 ?side2 A7.out).mono ?_); (case side1 => repeat (first | exact (Kd.C_below HR0_0.out HB.out) | (with_reducible refine Kd.C_alloc ?_ _) | (with_reducible refine Kd.C_drewN ?_ _) | (with_reducible refine Kd.C_drew ?_))); (case side2 => exact HC0_0.out); rintro e w11 ⟨rfl, hb⟩; have n0_ := Aside0.mk (blk_below (g := gb229) (o := .cells #[.slice A0_0 l0_0.length c0_0] 24 (0, 0)) (by (with_reducible repeat (first | refine blk_drewN ?_ _ | refine blk_drew ?_ | refine blk_alloc ?_ _)); exact BK229.out) hb); have n1_ := Aside0.mk (below_step (by repeat (first | (with_reducible first | exact HB.out | apply below_alloc | apply pw_below_drewN | apply below_drew1 | refine below_set ?_ GE229.out) | exact HB.out)) hb); clear BK229; clear HB; have BK229 := n0_; have HB := n1_; clear n0_ n1_; (try clear hb); (try clear hb2); (try clear hk); (try clear hi); have hcz12_0 : w11.cell? ⟨gb229, 0, none⟩ = some (.slice A0_0 l0_0.length c0_0) := (blk_cell BK229.out 0).trans rfl; have hfz12_0 := blk_frozen BK229.out 0) | (go_at_call 8; (with_reducible refine (job_Check.calls k _ _ l0_0 t232 _ ?side1 ?side2 A9.out).mono ?_); (case side1 => repeat (first | exact (Kd.C_below HR0_0.out HB.out) | (with_reducible refine Kd.C_alloc ?_ _) | (with_reducible refine Kd.C_drewN ?_ _) | (with_reducible refine Kd.C_drew ?_))); (case side2 => exact HC0_0.out); rintro e w13 ⟨rfl, hb⟩; have n0_ := Aside0.mk (blk_below (g := gb229) (o := .cells #[.slice A0_0 l0_0.length c0_0] 24 (0, 0)) (by (with_reducible repeat (first | refine blk_drewN ?_ _ | refine blk_drew ?_ | refine blk_alloc ?_ _)); exact BK229.out) hb); have n1_ := Aside0.mk (below_step (by repeat (first | (with_reducible first | exact HB.out | apply below_alloc | apply pw_below_drewN | apply below_drew1 | refine below_set ?_ GE229.out) | exact HB.out)) hb); clear BK229; clear HB; have BK229 := n0_; have HB := n1_; clear n0_ n1_; (try clear hb); (try clear hb2); (try clear hk); (try clear hi)))
        repeat (go_quiet (first | (go_at_call 7; (with_reducible refine (leatlaw8_light.calls k _ _ l0_0 true _ ?side1 ?side2 A7.out).mono ?_); (case side1 => repeat (first | exact (Kd.C_below HR0_0.out HB.out) | (with_reducible refine Kd.C_alloc ?_ _) | (with_reducible refine Kd.C_drewN ?_ _) | (with_reducible refine Kd.C_drew ?_))); (case side2 => exact HC0_0.out); rintro e w11 ⟨rfl, hb⟩; have n0_ := Aside0.mk (blk_below (g := gb229) (o := .cells #[.slice A0_0 l0_0.length c0_0] 24 (0, 0)) (by (with_reducible repeat (first | refine blk_drewN ?_ _ | refine blk_drew ?_ | refine blk_alloc ?_ _)); exact BK229.out) hb); have n1_ := Aside0.mk (below_step (by repeat (first | (with_reducible first | exact HB.out | apply below_alloc | apply pw_below_drewN | apply below_drew1 | refine below_set ?_ GE229.out) | exact HB.out)) hb); clear BK229; clear HB; have BK229 := n0_; have HB := n1_; clear n0_ n1_; (try clear hb); (try clear hb2); (try clear hk); (try clear hi); have hcz12_0 : w11.cell? ⟨gb229, 0, none⟩ = some (.slice A0_0 l0_0.length c0_0) := (blk_cell BK229.out 0).trans rfl; have hfz12_0 := blk_frozen BK229.out 0) | (go_at_call 8; (with_reducible refine (job_Check.calls k _ _ l0_0 t232 _ ?side1 ?side2 A9.out).mono ?_); (case side1 => repeat (first | exact (Kd.C_below HR0_0.out HB.out) | (with_reducible refine Kd.C_alloc ?_ _) | (with_reducible refine Kd.C_drewN ?_ _) | (with_reducible refine Kd.C_drew ?_))); (case side2 => exact HC0_0.out); rintro e w13 ⟨rfl, hb⟩; have n0_ := Aside0.mk (blk_below (g := gb229) (o := .cells #[.slice A0_0 l0_0.length c0_0] 24 (0, 0)) (by (with_reducible repeat (first | refine blk_drewN ?_ _ | refine blk_drew ?_ | refine blk_alloc ?_ _)); exact BK229.out) hb); have n1_ := Aside0.mk (below_step (by repeat (first | (with_reducible first | exact HB.out | apply below_alloc | apply pw_below_drewN | apply below_drew1 | refine below_set ?_ GE229.out) | exact HB.out)) hb); clear BK229; clear HB; have BK229 := n0_; have HB := n1_; clear n0_ n1_; (try clear hb); (try clear hb2); (try clear hk); (try clear hi))); try go_wp2_with (first | (go_at_call 7; (with_reducible refine (leatlaw8_light.calls k _ _ l0_0 true _ ?side1 ?side2 A7.out).mono ?_); (case side1 => repeat (first | exact (Kd.C_below HR0_0.out HB.out) | (with_reducible refine Kd.C_alloc ?_ _) | (with_reducible refine Kd.C_drewN ?_ _) | (with_reducible refine Kd.C_drew ?_))); (case side2 => exact HC0_0.out); rintro e w11 ⟨rfl, hb⟩; have n0_ := Aside0.mk (blk_below (g := gb229) (o := .cells #[.slice A0_0 l0_0.length c0_0] 24 (0, 0)) (by (with_reducible repeat (first | refine blk_drewN ?_ _ | refine blk_drew ?_ | refine blk_alloc ?_ _)); exact BK229.out) hb); have n1_ := Aside0.mk (below_step (by repeat (first | (with_reducible first | exact HB.out | apply below_alloc | apply pw_below_drewN | apply below_drew1 | refine below_set ?_ GE229.out) | exact HB.out)) hb); clear BK229; clear HB; have BK229 := n0_; have HB := n1_; clear n0_ n1_; (try clear hb); (try clear hb2); (try clear hk); (try clear hi); have hcz12_0 : w11.cell? ⟨gb229, 0, none⟩ = some (.slice A0_0 l0_0.length c0_0) := (blk_cell BK229.out 0).trans rfl; have hfz12_0 := blk_frozen BK229.out 0) | (go_at_call 8; (with_reducible refine (job_Check.calls k _ _ l0_0 t232 _ ?side1 ?side2 A9.out).mono ?_); (case side1 => repeat (first | exact (Kd.C_below HR0_0.out HB.out) | (with_reducible refine Kd.C_alloc ?_ _) | (with_reducible refine Kd.C_drewN ?_ _) | (with_reducible refine Kd.C_drew ?_))); (case side2 => exact HC0_0.out); rintro e w13 ⟨rfl, hb⟩; have n0_ := Aside0.mk (blk_below (g := gb229) (o := .cells #[.slice A0_0 l0_0.length c0_0] 24 (0, 0)) (by (with_reducible repeat (first | refine blk_drewN ?_ _ | refine blk_drew ?_ | refine blk_alloc ?_ _)); exact BK229.out) hb); have n1_ := Aside0.mk (below_step (by repeat (first | (with_reducible first | exact HB.out | apply below_alloc | apply pw_below_drewN | apply below_drew1 | refine below_set ?_ GE229.out) | exact HB.out)) hb); clear BK229; clear HB; have BK229 := n0_; have HB := n1_; clear n0_ n1_; (try clear hb); (try clear hb2); (try clear hk); (try clear hi))))
        go_meet
        case rel => exact ⟨_, ((t232 != 0)), (by first | rfl | (simp; done) | (simp [*]; done)), H', ⟨by first | omega | exact Nat.le_refl _⟩, ⟨by (with_reducible repeat (first | refine blk_drewN ?_ _ | refine blk_drew ?_ | refine blk_alloc ?_ _)); exact BK229.out⟩, ⟨by repeat (first | (with_reducible first | exact HB.out | apply below_alloc | apply pw_below_drewN | apply below_drew1 | refine below_set ?_ GE229.out) | exact HB.out)⟩⟩
      · replace c8 := Bool.eq_false_iff.mpr c8
        subst c8
        have H1 : (leatlaw8_JobOrder.j0 k true l0_0) = some r := by rw [if_neg (show ¬ (false = true) by decide)] at H; exact H
        clear H
        have H := H1
        clear H1
        have H' := Aside0.mk H
        clear H
        have hcz14_0 : w6.cell? ⟨gb229, 0, none⟩ = some (.slice A0_0 l0_0.length c0_0) := (blk_cell BK229.out 0).trans rfl
        have hfz14_0 := blk_frozen BK229.out 0
        go_wp2_with (first | (go_at_call 7; (with_reducible refine (leatlaw8_light.calls k _ _ l0_0 false _ ?side1 ?side2 A7.out).mono ?_); (case side1 => repeat (first | exact (Kd.C_below HR0_0.out HB.out) | (with_reducible refine Kd.C_alloc ?_ _) | (with_reducible refine Kd.C_drewN ?_ _) | (with_reducible refine Kd.C_drew ?_))); (case side2 => exact HC0_0.out); rintro e w15 ⟨rfl, hb⟩; have n0_ := Aside0.mk (blk_below (g := gb229) (o := .cells #[.slice A0_0 l0_0.length c0_0] 24 (0, 0)) (by (with_reducible repeat (first | refine blk_drewN ?_ _ | refine blk_drew ?_ | refine blk_alloc ?_ _)); exact BK229.out) hb); have n1_ := Aside0.mk (below_step (by repeat (first | (with_reducible first | exact HB.out | apply below_alloc | apply pw_below_drewN | apply below_drew1 | refine below_set ?_ GE229.out) | exact HB.out)) hb); clear BK229; clear HB; have BK229 := n0_; have HB := n1_; clear n0_ n1_; (try clear hb); (try clear hb2); (try clear hk); (try clear hi)))
        repeat (go_quiet (first | (go_at_call 7; (with_reducible refine (leatlaw8_light.calls k _ _ l0_0 false _ ?side1 ?side2 A7.out).mono ?_); (case side1 => repeat (first | exact (Kd.C_below HR0_0.out HB.out) | (with_reducible refine Kd.C_alloc ?_ _) | (with_reducible refine Kd.C_drewN ?_ _) | (with_reducible refine Kd.C_drew ?_))); (case side2 => exact HC0_0.out); rintro e w15 ⟨rfl, hb⟩; have n0_ := Aside0.mk (blk_below (g := gb229) (o := .cells #[.slice A0_0 l0_0.length c0_0] 24 (0, 0)) (by (with_reducible repeat (first | refine blk_drewN ?_ _ | refine blk_drew ?_ | refine blk_alloc ?_ _)); exact BK229.out) hb); have n1_ := Aside0.mk (below_step (by repeat (first | (with_reducible first | exact HB.out | apply below_alloc | apply pw_below_drewN | apply below_drew1 | refine below_set ?_ GE229.out) | exact HB.out)) hb); clear BK229; clear HB; have BK229 := n0_; have HB := n1_; clear n0_ n1_; (try clear hb); (try clear hb2); (try clear hk); (try clear hi))); try go_wp2_with (first | (go_at_call 7; (with_reducible refine (leatlaw8_light.calls k _ _ l0_0 false _ ?side1 ?side2 A7.out).mono ?_); (case side1 => repeat (first | exact (Kd.C_below HR0_0.out HB.out) | (with_reducible refine Kd.C_alloc ?_ _) | (with_reducible refine Kd.C_drewN ?_ _) | (with_reducible refine Kd.C_drew ?_))); (case side2 => exact HC0_0.out); rintro e w15 ⟨rfl, hb⟩; have n0_ := Aside0.mk (blk_below (g := gb229) (o := .cells #[.slice A0_0 l0_0.length c0_0] 24 (0, 0)) (by (with_reducible repeat (first | refine blk_drewN ?_ _ | refine blk_drew ?_ | refine blk_alloc ?_ _)); exact BK229.out) hb); have n1_ := Aside0.mk (below_step (by repeat (first | (with_reducible first | exact HB.out | apply below_alloc | apply pw_below_drewN | apply below_drew1 | refine below_set ?_ GE229.out) | exact HB.out)) hb); clear BK229; clear HB; have BK229 := n0_; have HB := n1_; clear n0_ n1_; (try clear hb); (try clear hb2); (try clear hk); (try clear hi))))
        go_meet
        case rel => exact ⟨_, (true), (by first | rfl | (simp; done) | (simp [*]; done)), H', ⟨by first | omega | exact Nat.le_refl _⟩, ⟨by (with_reducible repeat (first | refine blk_drewN ?_ _ | refine blk_drew ?_ | refine blk_alloc ?_ _)); exact BK229.out⟩, ⟨by repeat (first | (with_reducible first | exact HB.out | apply below_alloc | apply pw_below_drewN | apply below_drew1 | refine below_set ?_ GE229.out) | exact HB.out)⟩⟩
    case rest =>
      clear HC4
      try clear p2
      try clear c3
      try clear c8
      try clear hcz10_0
      try clear hcz12_0
      try clear hcz14_0
      try clear hfz10_0
      try clear hfz12_0
      try clear hfz14_0
      obtain ⟨kq, x17_3, rfl, HA, HJ3, BK229, HB⟩ := hcut
      cases kq with
      | zero => exact absurd HA.out (by simp [leatlaw8_JobOrder.j0])
      | succ kj3 =>
        have H := HA.out
        clear HA
        simp only [leatlaw8_JobOrder.j0] at H
        by_cases c16 : x17_3 = true
        · subst c16
          have H1 : (some true) = some r := by rw [if_pos rfl] at H; exact H
          clear H
          have H := H1
          clear H1
          obtain rfl := Option.some.inj H
          go_wp2
          repeat (go_quiet (fail); try go_wp2)
          go_ret
          exact ⟨by first | rfl | (simp [errW_none, errW_some] <;> rfl) | (simp [*, errW_none, errW_some] <;> rfl), by repeat (first | (with_reducible first | exact HB.out | apply below_alloc | apply pw_below_drewN | apply below_drew1 | refine below_set ?_ GE229.out) | exact HB.out)⟩
        · replace c16 := Bool.eq_false_iff.mpr c16
          subst c16
          have H1 : (if 0 ≤ (l0_0.length : Int) then (if ((l0_0.length : Int) : Int).toNat ≤ 281474976710656 then ((job_Order.f l0_0).bind fun t236 => (leatlaw8_JobOrder.l0 kj3 (List.replicate ((l0_0.length : Int) : Int).toNat false) t236 0 l0_0)) else (none)) else (none)) = some r := by rw [if_neg (show ¬ (false = true) by decide)] at H; exact H
          clear H
          have H := H1
          clear H1
          by_cases c17 : 0 ≤ (l0_0.length : Int)
          · rw [if_pos c17] at H
            have c17b0 := eq_true c17
            have c17b1 : decide (0 ≤ (l0_0.length : Int)) = true := decide_eq_true c17
            clear c17
            by_cases c18 : ((l0_0.length : Int) : Int).toNat ≤ 281474976710656
            · rw [if_pos c18] at H
              have c18b0 := eq_true c18
              have c18b1 : decide (((l0_0.length : Int) : Int).toNat ≤ 281474976710656) = true := decide_eq_true c18
              clear c18
              obtain ⟨y233, hy233⟩ : ∃ y_ : List Bool, y_ = (List.replicate ((l0_0.length : Int) : Int).toNat false) := ⟨_, rfl⟩
              replace H : ((job_Order.f l0_0).bind fun t236 => (leatlaw8_JobOrder.l0 kj3 y233 t236 0 l0_0)) = some r := by first | (rw [hy233]; with_reducible exact H) | (have H2_ := (Option.bind_some _ _).symm.trans H; rw [hy233]; with_reducible exact H2_) | (have H2_ := (Option.bind_some _ _).symm.trans H; with_reducible exact H2_) | with_reducible exact H | (rw [hy233]; exact H) | exact H
              have Ny233 := Aside0.mk hy233
              clear hy233
              replace H := Option.bind_eq_some_iff.mp H
              obtain ⟨t236, A190, H⟩ := H
              replace H : (leatlaw8_JobOrder.l0 kj3 y233 t236 0 l0_0) = some r := H
              have A19 := Aside0.mk A190
              clear A190
              have H' := Aside0.mk H
              clear H
              have hcz20_0 : wc.cell? ⟨gb229, 0, none⟩ = some (.slice A0_0 l0_0.length c0_0) := (blk_cell BK229.out 0).trans rfl
              have hfz20_0 := blk_frozen BK229.out 0
              go_wp2_with (first | ((with_reducible refine gate_dst (N := 21) rfl ?_); (try (refine gate_guard (by rfl) ?_; dsimp only)); refine Kd.R_make Kd.bool _ 4 rfl (N := 21) rfl 29 _ _ rfl (l0_0.length : Int) rfl rfl Try.underlying29 (.bool false) 1 info4 rfl (by decide) (by omega) false (ok := fun _ => True) (okp := fun _ => True) rfl (fun _ hk => hk) trivial (of_decide_eq_true (by first | (with_reducible assumption) | assumption)) (Nat.le_trans (Nat.mul_le_mul_right _ (of_decide_eq_true (by first | (with_reducible assumption) | assumption) : (l0_0.length : Int).toNat ≤ 281474976710656)) (by omega)) (Below.refl _ _) (Nat.le_refl _) ?_; intro v234 w21 ho22 hb hg_ hnew_; clear hg_ hnew_; (first | rw [← Ny233.out] at ho22 | (simp only [Int.reduceToNat] at ho22; rw [← Ny233.out] at ho22)); have n0_ := Aside0.mk (Kd.R_lower ho22 (below_size (by repeat (first | (with_reducible first | exact HB.out | apply below_alloc | apply pw_below_drewN | apply below_drew1 | refine below_set ?_ GE229.out) | exact HB.out)))); have n1_ := Aside0.mk (blk_below (g := gb229) (o := .cells #[.slice A0_0 l0_0.length c0_0] 24 (0, 0)) (by (with_reducible repeat (first | refine blk_drewN ?_ _ | refine blk_drew ?_ | refine blk_alloc ?_ _)); exact BK229.out) hb); have n2_ := Aside0.mk (below_step (by repeat (first | (with_reducible first | exact HB.out | apply below_alloc | apply pw_below_drewN | apply below_drew1 | refine below_set ?_ GE229.out) | exact HB.out)) hb); clear BK229; clear HB; have HO235 := n0_; have BK229 := n1_; have HB := n2_; clear n0_ n1_ n2_; clear hb ho22; have hcz23_0 : w21.cell? ⟨gb229, 0, none⟩ = some (.slice A0_0 l0_0.length c0_0) := (blk_cell BK229.out 0).trans rfl; have hfz23_0 := blk_frozen BK229.out 0) | (go_at_call 9; (with_reducible refine (job_Order.calls _ _ l0_0 t236 _ ?side1 ?side2 A19.out).mono ?_); (case side1 => repeat (first | exact (Kd.C_below HR0_0.out HB.out) | (with_reducible refine Kd.C_alloc ?_ _) | (with_reducible refine Kd.C_drewN ?_ _) | (with_reducible refine Kd.C_drew ?_))); (case side2 => exact HC0_0.out); rintro e w24 ⟨v237, rfl, ho0, hb⟩; have n0_ := Aside0.mk (Kd.R_below (by (with_reducible repeat (first | apply Kd.R_alloc | apply Kd.R_drewN | apply Kd.R_drew)); exact HO235.out) hb); have n1_ := Aside0.mk (Kd.R_lower ho0 (below_size (by repeat (first | (with_reducible first | exact HB.out | apply below_alloc | apply pw_below_drewN | apply below_drew1 | refine below_set ?_ GE229.out) | exact HB.out)))); have n2_ := Aside0.mk (blk_below (g := gb229) (o := .cells #[.slice A0_0 l0_0.length c0_0] 24 (0, 0)) (by (with_reducible repeat (first | refine blk_drewN ?_ _ | refine blk_drew ?_ | refine blk_alloc ?_ _)); exact BK229.out) hb); have n3_ := Aside0.mk (below_step (by repeat (first | (with_reducible first | exact HB.out | apply below_alloc | apply pw_below_drewN | apply below_drew1 | refine below_set ?_ GE229.out) | exact HB.out)) hb); clear HO235; clear BK229; clear HB; have HO235 := n0_; have HO238 := n1_; have BK229 := n2_; have HB := n3_; clear n0_ n1_ n2_ n3_; (try clear hb); (try clear hb2); (try clear hk); (try clear hi); (try clear ho0)))
              repeat (go_quiet (first | ((with_reducible refine gate_dst (N := 21) rfl ?_); (try (refine gate_guard (by rfl) ?_; dsimp only)); refine Kd.R_make Kd.bool _ 4 rfl (N := 21) rfl 29 _ _ rfl (l0_0.length : Int) rfl rfl Try.underlying29 (.bool false) 1 info4 rfl (by decide) (by omega) false (ok := fun _ => True) (okp := fun _ => True) rfl (fun _ hk => hk) trivial (of_decide_eq_true (by first | (with_reducible assumption) | assumption)) (Nat.le_trans (Nat.mul_le_mul_right _ (of_decide_eq_true (by first | (with_reducible assumption) | assumption) : (l0_0.length : Int).toNat ≤ 281474976710656)) (by omega)) (Below.refl _ _) (Nat.le_refl _) ?_; intro v234 w21 ho22 hb hg_ hnew_; clear hg_ hnew_; (first | rw [← Ny233.out] at ho22 | (simp only [Int.reduceToNat] at ho22; rw [← Ny233.out] at ho22)); have n0_ := Aside0.mk (Kd.R_lower ho22 (below_size (by repeat (first | (with_reducible first | exact HB.out | apply below_alloc | apply pw_below_drewN | apply below_drew1 | refine below_set ?_ GE229.out) | exact HB.out)))); have n1_ := Aside0.mk (blk_below (g := gb229) (o := .cells #[.slice A0_0 l0_0.length c0_0] 24 (0, 0)) (by (with_reducible repeat (first | refine blk_drewN ?_ _ | refine blk_drew ?_ | refine blk_alloc ?_ _)); exact BK229.out) hb); have n2_ := Aside0.mk (below_step (by repeat (first | (with_reducible first | exact HB.out | apply below_alloc | apply pw_below_drewN | apply below_drew1 | refine below_set ?_ GE229.out) | exact HB.out)) hb); clear BK229; clear HB; have HO235 := n0_; have BK229 := n1_; have HB := n2_; clear n0_ n1_ n2_; clear hb ho22; have hcz23_0 : w21.cell? ⟨gb229, 0, none⟩ = some (.slice A0_0 l0_0.length c0_0) := (blk_cell BK229.out 0).trans rfl; have hfz23_0 := blk_frozen BK229.out 0) | (go_at_call 9; (with_reducible refine (job_Order.calls _ _ l0_0 t236 _ ?side1 ?side2 A19.out).mono ?_); (case side1 => repeat (first | exact (Kd.C_below HR0_0.out HB.out) | (with_reducible refine Kd.C_alloc ?_ _) | (with_reducible refine Kd.C_drewN ?_ _) | (with_reducible refine Kd.C_drew ?_))); (case side2 => exact HC0_0.out); rintro e w24 ⟨v237, rfl, ho0, hb⟩; have n0_ := Aside0.mk (Kd.R_below (by (with_reducible repeat (first | apply Kd.R_alloc | apply Kd.R_drewN | apply Kd.R_drew)); exact HO235.out) hb); have n1_ := Aside0.mk (Kd.R_lower ho0 (below_size (by repeat (first | (with_reducible first | exact HB.out | apply below_alloc | apply pw_below_drewN | apply below_drew1 | refine below_set ?_ GE229.out) | exact HB.out)))); have n2_ := Aside0.mk (blk_below (g := gb229) (o := .cells #[.slice A0_0 l0_0.length c0_0] 24 (0, 0)) (by (with_reducible repeat (first | refine blk_drewN ?_ _ | refine blk_drew ?_ | refine blk_alloc ?_ _)); exact BK229.out) hb); have n3_ := Aside0.mk (below_step (by repeat (first | (with_reducible first | exact HB.out | apply below_alloc | apply pw_below_drewN | apply below_drew1 | refine below_set ?_ GE229.out) | exact HB.out)) hb); clear HO235; clear BK229; clear HB; have HO235 := n0_; have HO238 := n1_; have BK229 := n2_; have HB := n3_; clear n0_ n1_ n2_ n3_; (try clear hb); (try clear hb2); (try clear hk); (try clear hi); (try clear ho0))); try go_wp2_with (first | ((with_reducible refine gate_dst (N := 21) rfl ?_); (try (refine gate_guard (by rfl) ?_; dsimp only)); refine Kd.R_make Kd.bool _ 4 rfl (N := 21) rfl 29 _ _ rfl (l0_0.length : Int) rfl rfl Try.underlying29 (.bool false) 1 info4 rfl (by decide) (by omega) false (ok := fun _ => True) (okp := fun _ => True) rfl (fun _ hk => hk) trivial (of_decide_eq_true (by first | (with_reducible assumption) | assumption)) (Nat.le_trans (Nat.mul_le_mul_right _ (of_decide_eq_true (by first | (with_reducible assumption) | assumption) : (l0_0.length : Int).toNat ≤ 281474976710656)) (by omega)) (Below.refl _ _) (Nat.le_refl _) ?_; intro v234 w21 ho22 hb hg_ hnew_; clear hg_ hnew_; (first | rw [← Ny233.out] at ho22 | (simp only [Int.reduceToNat] at ho22; rw [← Ny233.out] at ho22)); have n0_ := Aside0.mk (Kd.R_lower ho22 (below_size (by repeat (first | (with_reducible first | exact HB.out | apply below_alloc | apply pw_below_drewN | apply below_drew1 | refine below_set ?_ GE229.out) | exact HB.out)))); have n1_ := Aside0.mk (blk_below (g := gb229) (o := .cells #[.slice A0_0 l0_0.length c0_0] 24 (0, 0)) (by (with_reducible repeat (first | refine blk_drewN ?_ _ | refine blk_drew ?_ | refine blk_alloc ?_ _)); exact BK229.out) hb); have n2_ := Aside0.mk (below_step (by repeat (first | (with_reducible first | exact HB.out | apply below_alloc | apply pw_below_drewN | apply below_drew1 | refine below_set ?_ GE229.out) | exact HB.out)) hb); clear BK229; clear HB; have HO235 := n0_; have BK229 := n1_; have HB := n2_; clear n0_ n1_ n2_; clear hb ho22; have hcz23_0 : w21.cell? ⟨gb229, 0, none⟩ = some (.slice A0_0 l0_0.length c0_0) := (blk_cell BK229.out 0).trans rfl; have hfz23_0 := blk_frozen BK229.out 0) | (go_at_call 9; (with_reducible refine (job_Order.calls _ _ l0_0 t236 _ ?side1 ?side2 A19.out).mono ?_); (case side1 => repeat (first | exact (Kd.C_below HR0_0.out HB.out) | (with_reducible refine Kd.C_alloc ?_ _) | (with_reducible refine Kd.C_drewN ?_ _) | (with_reducible refine Kd.C_drew ?_))); (case side2 => exact HC0_0.out); rintro e w24 ⟨v237, rfl, ho0, hb⟩; have n0_ := Aside0.mk (Kd.R_below (by (with_reducible repeat (first | apply Kd.R_alloc | apply Kd.R_drewN | apply Kd.R_drew)); exact HO235.out) hb); have n1_ := Aside0.mk (Kd.R_lower ho0 (below_size (by repeat (first | (with_reducible first | exact HB.out | apply below_alloc | apply pw_below_drewN | apply below_drew1 | refine below_set ?_ GE229.out) | exact HB.out)))); have n2_ := Aside0.mk (blk_below (g := gb229) (o := .cells #[.slice A0_0 l0_0.length c0_0] 24 (0, 0)) (by (with_reducible repeat (first | refine blk_drewN ?_ _ | refine blk_drew ?_ | refine blk_alloc ?_ _)); exact BK229.out) hb); have n3_ := Aside0.mk (below_step (by repeat (first | (with_reducible first | exact HB.out | apply below_alloc | apply pw_below_drewN | apply below_drew1 | refine below_set ?_ GE229.out) | exact HB.out)) hb); clear HO235; clear BK229; clear HB; have HO235 := n0_; have HO238 := n1_; have BK229 := n2_; have HB := n3_; clear n0_ n1_ n2_ n3_; (try clear hb); (try clear hb2); (try clear hk); (try clear hi); (try clear ho0))))
              go_loopg [5] kj3 (fun kq v5 w' => ∃ (x3_2 : List Bool) (x5_2 : Int), v5 = .int .i64 x5_2 ∧ Aside0 (leatlaw8_JobOrder.l0 kq x3_2 t236 x5_2 l0_0 = some r) ∧ Aside0 (kq ≤ kj3) ∧ Aside0 (Kd.R Kd.bool 4 w' w.heap.size (fun _ => True) v234 x3_2) ∧ Aside0 (Kd.R (Kd.int .i64) 3 w' w.heap.size (fun _ => True) v237 t236) ∧ Aside0 (w'.heap[gb229]? = some (.cells #[(.slice A0_0 l0_0.length c0_0)] 24 (0, 0))) ∧ Aside0 (Below w.heap.size w w'))
              case atStart => exact ⟨(y233), (0), (by first | rfl | (simp; done) | (simp [*]; done)), H', ⟨Nat.le_refl _⟩, ⟨by (with_reducible repeat (first | apply Kd.R_alloc | apply Kd.R_drewN | apply Kd.R_drew)); exact HO235.out⟩, ⟨by (with_reducible repeat (first | apply Kd.R_alloc | apply Kd.R_drewN | apply Kd.R_drew)); exact HO238.out⟩, ⟨by (with_reducible repeat (first | refine blk_drewN ?_ _ | refine blk_drew ?_ | refine blk_alloc ?_ _)); exact BK229.out⟩, ⟨by repeat (first | (with_reducible first | exact HB.out | apply below_alloc | apply pw_below_drewN | apply below_drew1 | refine below_set ?_ GE229.out) | exact HB.out)⟩⟩
              case round =>
                clear H'
                try clear c1
                try clear p2
                try clear c3
                try clear c8
                try clear c16
                try clear c17
                try clear c17b0
                try clear c17b1
                try clear c18
                try clear c18b0
                try clear c18b1
                try clear hcz10_0
                try clear hcz12_0
                try clear hcz14_0
                try clear hcz20_0
                try clear hcz23_0
                try clear hfz10_0
                try clear hfz12_0
                try clear hfz14_0
                try clear hfz20_0
                try clear hfz23_0
                try clear p2
                obtain ⟨x3_2, x5_2, rfl, HA, HK2, HO_3, HO_4, BK229, HB⟩ := hrel
                cases gk with
                | zero => exact absurd HA.out (by simp [leatlaw8_JobOrder.l0])
                | succ k2 =>
                  have H := HA.out
                  clear HA
                  simp only [leatlaw8_JobOrder.l0] at H
                  by_cases c25 : x5_2 < (t236.length : Int)
                  · rw [if_pos c25] at H
                    have c25b0 : decide (x5_2 < (t236.length : Int)) = true := decide_eq_true c25
                    clear c25
                    have HC26 := Aside0.mk H
                    clear H
                    obtain ⟨Ao27, co27, eo27⟩ := Kd.R_slice HO_4.out
                    subst eo27
                    go_upto_region 10 with (fail)
                    repeat (go_quiet (fail); go_upto_region 10 with (fail))
                    go_cut [52] (fun v52 wc => ∃ (kq : Nat) (x52_25 : Bool), v52 = .bool x52_25 ∧ Aside0 (leatlaw8_JobOrder.j2 kq x3_2 t236 x5_2 x52_25 l0_0 = some r) ∧ Aside0 (kq ≤ k2) ∧ Aside0 (Kd.R Kd.bool 4 wc w.heap.size (fun _ => True) v234 x3_2) ∧ Aside0 (Kd.R (Kd.int .i64) 3 wc w.heap.size (fun _ => True) (.slice Ao27 t236.length co27) t236) ∧ Aside0 (wc.heap[gb229]? = some (.cells #[(.slice A0_0 l0_0.length c0_0)] 24 (0, 0))) ∧ Aside0 (Below w.heap.size w wc))
                    case first =>
                      have H := HC26.out
                      clear HC26
                      by_cases c28 : 0 ≤ x5_2
                      · rw [if_pos c28] at H
                        have c28b0 : decide (0 ≤ x5_2) = true := decide_eq_true c28
                        clear c28
                        (first | rw [c28b0] | (simp only [i64_w, i32_w]; rw [c28b0]) | skip)
                        by_cases c29 : (rd t236 x5_2) < 0
                        · rw [if_pos c29] at H
                          have c29b0 : decide ((rd t236 x5_2) < 0) = true := decide_eq_true c29
                          clear c29
                          have H' := Aside0.mk H
                          clear H
                          have p239 : 0 ≤ (x5_2 : Int) := of_decide_eq_true (by first | (with_reducible assumption) | assumption)
                          have q239 : x5_2 < (t236.length : Int) := of_decide_eq_true (by first | (with_reducible assumption) | assumption)
                          obtain ⟨ad239, e239, hx239_0⟩ := Kd.at_int (Kd.R_reads' HO_4.out).2.2 x5_2 p239 q239
                          cases e239
                          replace p239 := eq_true p239
                          replace q239 := eq_true q239
                          go_wp2
                          repeat (go_quiet (fail); try go_wp2)
                          go_meet
                          case rel => exact ⟨_, (true), (by first | rfl | (simp; done) | (simp [*]; done)), H', ⟨by have := HJ3.out; have := HK2.out; first | omega | exact Nat.le_refl _⟩, ⟨by (with_reducible repeat (first | apply Kd.R_alloc | apply Kd.R_drewN | apply Kd.R_drew)); exact HO_3.out⟩, ⟨by (with_reducible repeat (first | apply Kd.R_alloc | apply Kd.R_drewN | apply Kd.R_drew)); exact HO_4.out⟩, ⟨by (with_reducible repeat (first | refine blk_drewN ?_ _ | refine blk_drew ?_ | refine blk_alloc ?_ _)); exact BK229.out⟩, ⟨by repeat (first | (with_reducible first | exact HB.out | apply below_alloc | apply pw_below_drewN | apply below_drew1 | refine below_set ?_ GE229.out) | exact HB.out)⟩⟩
                        · rw [if_neg c29] at H
                          have c29b0 : decide ((rd t236 x5_2) < 0) = false := decide_eq_false c29
                          clear c29
                          by_cases c30 : (rd t236 x5_2) ≥ (x3_2.length : Int)
                          · rw [if_pos c30] at H
                            have c30b0 : decide ((x3_2.length : Int) ≤ (rd t236 x5_2)) = true := decide_eq_true c30
                            clear c30
                            have H' := Aside0.mk H
                            clear H
                            have p239 : 0 ≤ (x5_2 : Int) := of_decide_eq_true (by first | (with_reducible assumption) | assumption)
                            have q239 : x5_2 < (t236.length : Int) := of_decide_eq_true (by first | (with_reducible assumption) | assumption)
                            obtain ⟨ad239, e239, hx239_0⟩ := Kd.at_int (Kd.R_reads' HO_4.out).2.2 x5_2 p239 q239
                            cases e239
                            replace p239 := eq_true p239
                            replace q239 := eq_true q239
                            have p240 : 0 ≤ (x5_2 : Int) := of_decide_eq_true (by first | (with_reducible assumption) | assumption)
                            have q240 : x5_2 < (t236.length : Int) := of_decide_eq_true (by first | (with_reducible assumption) | assumption)
                            obtain ⟨ad240, e240, hx240_0⟩ := Kd.at_int (Kd.R_reads' HO_4.out).2.2 x5_2 p240 q240
                            obtain rfl : ad239 = ad240 := (by injection e240)
                            replace p240 := eq_true p240
                            replace q240 := eq_true q240
                            obtain ⟨Ao31, co31, eo31⟩ := Kd.R_slice HO_3.out
                            subst eo31
                            go_wp2
                            repeat (go_quiet (fail); try go_wp2)
                            go_meet
                            case rel => exact ⟨_, (true), (by first | rfl | (simp; done) | (simp [*]; done)), H', ⟨by have := HJ3.out; have := HK2.out; first | omega | exact Nat.le_refl _⟩, ⟨by (with_reducible repeat (first | apply Kd.R_alloc | apply Kd.R_drewN | apply Kd.R_drew)); exact HO_3.out⟩, ⟨by (with_reducible repeat (first | apply Kd.R_alloc | apply Kd.R_drewN | apply Kd.R_drew)); exact HO_4.out⟩, ⟨by (with_reducible repeat (first | refine blk_drewN ?_ _ | refine blk_drew ?_ | refine blk_alloc ?_ _)); exact BK229.out⟩, ⟨by repeat (first | (with_reducible first | exact HB.out | apply below_alloc | apply pw_below_drewN | apply below_drew1 | refine below_set ?_ GE229.out) | exact HB.out)⟩⟩
                          · rw [if_neg c30] at H
                            have c30b0 : decide ((x3_2.length : Int) ≤ (rd t236 x5_2)) = false := decide_eq_false c30
                            clear c30
                            by_cases c32 : 0 ≤ (rd t236 x5_2)
                            · rw [if_pos c32] at H
                              have c32b0 : decide (0 ≤ (rd t236 x5_2)) = true := decide_eq_true c32
                              clear c32
                              by_cases c33 : (rd t236 x5_2) < (x3_2.length : Int)
                              · rw [if_pos c33] at H
                                have c33b0 : decide ((rd t236 x5_2) < (x3_2.length : Int)) = true := decide_eq_true c33
                                clear c33
                                have H' := Aside0.mk H
                                clear H
                                have p239 : 0 ≤ (x5_2 : Int) := of_decide_eq_true (by first | (with_reducible assumption) | assumption)
                                have q239 : x5_2 < (t236.length : Int) := of_decide_eq_true (by first | (with_reducible assumption) | assumption)
                                obtain ⟨ad239, e239, hx239_0⟩ := Kd.at_int (Kd.R_reads' HO_4.out).2.2 x5_2 p239 q239
                                cases e239
                                replace p239 := eq_true p239
                                replace q239 := eq_true q239
                                have p240 : 0 ≤ (x5_2 : Int) := of_decide_eq_true (by first | (with_reducible assumption) | assumption)
                                have q240 : x5_2 < (t236.length : Int) := of_decide_eq_true (by first | (with_reducible assumption) | assumption)
                                obtain ⟨ad240, e240, hx240_0⟩ := Kd.at_int (Kd.R_reads' HO_4.out).2.2 x5_2 p240 q240
                                obtain rfl : ad239 = ad240 := (by injection e240)
                                replace p240 := eq_true p240
                                replace q240 := eq_true q240
                                obtain ⟨Ao34, co34, eo34⟩ := Kd.R_slice HO_3.out
                                subst eo34
                                have p241 : 0 ≤ (x5_2 : Int) := of_decide_eq_true (by first | (with_reducible assumption) | assumption)
                                have q241 : x5_2 < (t236.length : Int) := of_decide_eq_true (by first | (with_reducible assumption) | assumption)
                                obtain ⟨ad241, e241, hx241_0⟩ := Kd.at_int (Kd.R_reads' HO_4.out).2.2 x5_2 p241 q241
                                obtain rfl : ad239 = ad241 := (by injection e241)
                                replace p241 := eq_true p241
                                replace q241 := eq_true q241
                                have p242 : 0 ≤ ((rd t236 x5_2) : Int) := of_decide_eq_true (by first | (with_reducible assumption) | assumption)
                                have q242 : (rd t236 x5_2) < (x3_2.length : Int) := of_decide_eq_true (by first | (with_reducible assumption) | assumption)
                                obtain ⟨ad242, e242, hx242_0⟩ := Kd.at_bool (Kd.R_reads' HO_3.out).2.2 (rd t236 x5_2) p242 q242
                                cases e242
                                replace p242 := eq_true p242
                                replace q242 := eq_true q242
                                go_wp2
                                repeat (go_quiet (fail); try go_wp2)
                                go_meet
                                case rel => exact ⟨_, (rdOf false x3_2 (rd t236 x5_2)), (by first | rfl | (simp; done) | (simp [*]; done)), H', ⟨by have := HJ3.out; have := HK2.out; first | omega | exact Nat.le_refl _⟩, ⟨by (with_reducible repeat (first | apply Kd.R_alloc | apply Kd.R_drewN | apply Kd.R_drew)); exact HO_3.out⟩, ⟨by (with_reducible repeat (first | apply Kd.R_alloc | apply Kd.R_drewN | apply Kd.R_drew)); exact HO_4.out⟩, ⟨by (with_reducible repeat (first | refine blk_drewN ?_ _ | refine blk_drew ?_ | refine blk_alloc ?_ _)); exact BK229.out⟩, ⟨by repeat (first | (with_reducible first | exact HB.out | apply below_alloc | apply pw_below_drewN | apply below_drew1 | refine below_set ?_ GE229.out) | exact HB.out)⟩⟩
                              · rw [if_neg c33] at H
                                exact absurd H (by simp)
                            · rw [if_neg c32] at H
                              exact absurd H (by simp)
                      · rw [if_neg c28] at H
                        exact absurd H (by simp)
                    case rest =>
                      clear HC26
                      try clear c1
                      try clear c2
                      try clear p2
                      try clear q2
                      try clear hx2
                      try clear c3
                      try clear c8
                      try clear c16
                      try clear c17
                      try clear c17b0
                      try clear c17b1
                      try clear c18
                      try clear c18b0
                      try clear c18b1
                      try clear p23
                      try clear q23
                      try clear hx23
                      try clear p24
                      try clear q24
                      try clear hx24
                      try clear c25
                      try clear c25b0
                      try clear c28
                      try clear c28b0
                      try clear c29
                      try clear c29b0
                      try clear c30
                      try clear c30b0
                      try clear c32
                      try clear c32b0
                      try clear c33
                      try clear c33b0
                      try clear hcz10_0
                      try clear hcz12_0
                      try clear hcz14_0
                      try clear hcz20_0
                      try clear hcz23_0
                      try clear hfz10_0
                      try clear hfz12_0
                      try clear hfz14_0
                      try clear hfz20_0
                      try clear hfz23_0
                      try clear hx239_0
                      try clear hx240_0
                      try clear hx241_0
                      try clear hx242_0
                      try clear p2
                      try clear p239
                      try clear p240
                      try clear p241
                      try clear p242
                      try clear q239
                      try clear q240
                      try clear q241
                      try clear q242
                      obtain ⟨kq, x52_25, rfl, HA, HJ25, HO_3, HO_4, BK229, HB⟩ := hcut
                      cases kq with
                      | zero => exact absurd HA.out (by simp [leatlaw8_JobOrder.j2])
                      | succ kj25 =>
                        have H := HA.out
                        clear HA
                        simp only [leatlaw8_JobOrder.j2] at H
                        by_cases c35 : x52_25 = true
                        · subst c35
                          have H1 : (none) = some r := by rw [if_pos rfl] at H; exact H
                          clear H
                          have H := H1
                          clear H1
                          exact absurd H (by simp)
                        · replace c35 := Bool.eq_false_iff.mpr c35
                          subst c35
                          have H1 : (if 0 ≤ x5_2 then (if x5_2 < (t236.length : Int) then (if 0 ≤ (rd t236 x5_2) then (if (rd t236 x5_2) < (l0_0.length : Int) then (leatlaw8_JobOrder.l1 kj25 x3_2 t236 x5_2 ((rd_T38 l0_0 (rd t236 x5_2)).f1) 0 l0_0) else (none)) else (none)) else (none)) else (none)) = some r := by rw [if_neg (show ¬ (false = true) by decide)] at H; exact H
                          clear H
                          have H := H1
                          clear H1
                          by_cases c36 : 0 ≤ x5_2
                          · rw [if_pos c36] at H
                            have c36b0 : decide (0 ≤ x5_2) = true := decide_eq_true c36
                            clear c36
                            by_cases c37 : x5_2 < (t236.length : Int)
                            · rw [if_pos c37] at H
                              have c37b0 : decide (x5_2 < (t236.length : Int)) = true := decide_eq_true c37
                              clear c37
                              by_cases c38 : 0 ≤ (rd t236 x5_2)
                              · rw [if_pos c38] at H
                                have c38b0 : decide (0 ≤ (rd t236 x5_2)) = true := decide_eq_true c38
                                clear c38
                                by_cases c39 : (rd t236 x5_2) < (l0_0.length : Int)
                                · rw [if_pos c39] at H
                                  have c39b0 : decide ((rd t236 x5_2) < (l0_0.length : Int)) = true := decide_eq_true c39
                                  clear c39
                                  have H' := Aside0.mk H
                                  clear H
                                  have hcz40_0 : wc.cell? ⟨gb229, 0, none⟩ = some (.slice A0_0 l0_0.length c0_0) := (blk_cell BK229.out 0).trans rfl
                                  have hfz40_0 := blk_frozen BK229.out 0
                                  have p243 : 0 ≤ (x5_2 : Int) := of_decide_eq_true (by first | (with_reducible assumption) | assumption)
                                  have q243 : x5_2 < (t236.length : Int) := of_decide_eq_true (by first | (with_reducible assumption) | assumption)
                                  obtain ⟨ad243, e243, hx243_0⟩ := Kd.at_int (Kd.R_reads' HO_4.out).2.2 x5_2 p243 q243
                                  cases e243
                                  replace p243 := eq_true p243
                                  replace q243 := eq_true q243
                                  have p244 : 0 ≤ ((rd t236 x5_2) : Int) := of_decide_eq_true (by first | (with_reducible assumption) | assumption)
                                  have q244 : (rd t236 x5_2) < (l0_0.length : Int) := of_decide_eq_true (by first | (with_reducible assumption) | assumption)
                                  obtain ⟨ad244, A244_1, c244_1, A244_5, c244_5, e244, hx244_0, hx244_1, hx244_2, hx244_3, hx244_4, hx244_5, hx244_6, hx244_7, hx244_8, hx244_9, hl244_1, hi244_1, hl244_5, hi244_5⟩ := at_T38 HR0_0.out (rd t236 x5_2) p244 q244
                                  cases e244
                                  replace hx244_0 := (HB.out.cell (World.block_lt_of_cell? w _ hx244_0)).trans hx244_0
                                  replace hx244_1 := (HB.out.cell (World.block_lt_of_cell? w _ hx244_1)).trans hx244_1
                                  replace hx244_2 := (HB.out.cell (World.block_lt_of_cell? w _ hx244_2)).trans hx244_2
                                  replace hx244_3 := (HB.out.cell (World.block_lt_of_cell? w _ hx244_3)).trans hx244_3
                                  replace hx244_4 := (HB.out.cell (World.block_lt_of_cell? w _ hx244_4)).trans hx244_4
                                  replace hx244_5 := (HB.out.cell (World.block_lt_of_cell? w _ hx244_5)).trans hx244_5
                                  replace hx244_6 := (HB.out.cell (World.block_lt_of_cell? w _ hx244_6)).trans hx244_6
                                  replace hx244_7 := (HB.out.cell (World.block_lt_of_cell? w _ hx244_7)).trans hx244_7
                                  replace hx244_8 := (HB.out.cell (World.block_lt_of_cell? w _ hx244_8)).trans hx244_8
                                  replace hx244_9 := (HB.out.cell (World.block_lt_of_cell? w _ hx244_9)).trans hx244_9
                                  have HR244_1 := Aside0.mk hi244_1
                                  have HC244_1 := Aside0.mk hl244_1
                                  clear hi244_1 hl244_1
                                  have HR244_5 := Aside0.mk hi244_5
                                  have HC244_5 := Aside0.mk hl244_5
                                  clear hi244_5 hl244_5
                                  replace p244 := eq_true p244
                                  replace q244 := eq_true q244
                                  go_wp2
                                  repeat (go_quiet (fail); try go_wp2)
                                  go_loopg [7] kj25 (fun kq v7 w' => ∃ (x7_4 : Int), v7 = .int .i64 x7_4 ∧ Aside0 (leatlaw8_JobOrder.l1 kq x3_2 t236 x5_2 ((rd_T38 l0_0 (rd t236 x5_2)).f1) x7_4 l0_0 = some r) ∧ Aside0 (kq ≤ kj25) ∧ Aside0 (Kd.R Kd.bool 4 w' w.heap.size (fun _ => True) v234 x3_2) ∧ Aside0 (Kd.R (Kd.int .i64) 3 w' w.heap.size (fun _ => True) (.slice (some ad243) t236.length co27) t236) ∧ Aside0 (w'.heap[gb229]? = some (.cells #[(.slice (some ad244) l0_0.length c0_0)] 24 (0, 0))) ∧ Aside0 (Below w.heap.size w w'))
                                  case atStart => exact ⟨(0), (by first | rfl | (simp; done) | (simp [*]; done)), H', ⟨Nat.le_refl _⟩, ⟨by (with_reducible repeat (first | apply Kd.R_alloc | apply Kd.R_drewN | apply Kd.R_drew)); exact HO_3.out⟩, ⟨by (with_reducible repeat (first | apply Kd.R_alloc | apply Kd.R_drewN | apply Kd.R_drew)); exact HO_4.out⟩, ⟨by (with_reducible repeat (first | refine blk_drewN ?_ _ | refine blk_drew ?_ | refine blk_alloc ?_ _)); exact BK229.out⟩, ⟨by repeat (first | (with_reducible first | exact HB.out | apply below_alloc | apply pw_below_drewN | apply below_drew1 | refine below_set ?_ GE229.out) | exact HB.out)⟩⟩
                                  case round =>
                                    clear H'
                                    try clear c1
                                    try clear c2
                                    try clear p2
                                    try clear q2
                                    try clear hx2
                                    try clear c3
                                    try clear c8
                                    try clear c16
                                    try clear c17
                                    try clear c17b0
                                    try clear c17b1
                                    try clear c18
                                    try clear c18b0
                                    try clear c18b1
                                    try clear p23
                                    try clear q23
                                    try clear hx23
                                    try clear c24
                                    try clear p24
                                    try clear q24
                                    try clear hx24
                                    try clear c25
                                    try clear c25b0
                                    try clear c28
                                    try clear c28b0
                                    try clear c29
                                    try clear c29b0
                                    try clear c30
                                    try clear c30b0
                                    try clear c32
                                    try clear c32b0
                                    try clear c33
                                    try clear c33b0
                                    try clear c35
                                    try clear c36
                                    try clear c36b0
                                    try clear c37
                                    try clear c37b0
                                    try clear c38
                                    try clear c38b0
                                    try clear c39
                                    try clear c39b0
                                    try clear hcz10_0
                                    try clear hcz12_0
                                    try clear hcz14_0
                                    try clear hcz20_0
                                    try clear hcz23_0
                                    try clear hcz40_0
                                    try clear hfz10_0
                                    try clear hfz12_0
                                    try clear hfz14_0
                                    try clear hfz20_0
                                    try clear hfz23_0
                                    try clear hfz40_0
                                    try clear hx239_0
                                    try clear hx240_0
                                    try clear hx241_0
                                    try clear hx242_0
                                    try clear hx243_0
                                    try clear hx244_0
                                    try clear hx244_1
                                    try clear hx244_2
                                    try clear hx244_3
                                    try clear hx244_4
                                    try clear hx244_5
                                    try clear hx244_6
                                    try clear hx244_7
                                    try clear hx244_8
                                    try clear hx244_9
                                    try clear p2
                                    try clear p23
                                    try clear p239
                                    try clear p24
                                    try clear p240
                                    try clear p241
                                    try clear p242
                                    try clear p243
                                    try clear p244
                                    try clear q2
                                    try clear q23
                                    try clear q239
                                    try clear q24
                                    try clear q240
                                    try clear q241
                                    try clear q242
                                    try clear q243
                                    try clear q244
                                    obtain ⟨x7_4, rfl, HA, HK4, HO_3, HO_4, BK229, HB⟩ := hrel
                                    cases gk with
                                    | zero => exact absurd HA.out (by simp [leatlaw8_JobOrder.l1])
                                    | succ k4 =>
                                      have H := HA.out
                                      clear HA
                                      simp only [leatlaw8_JobOrder.l1] at H
                                      by_cases c41 : x7_4 < (((rd_T38 l0_0 (rd t236 x5_2)).f1).length : Int)
                                      · rw [if_pos c41] at H
                                        have c41b0 : decide (x7_4 < (((rd_T38 l0_0 (rd t236 x5_2)).f1).length : Int)) = true := decide_eq_true c41
                                        clear c41
                                        by_cases c42 : 0 ≤ x7_4
                                        · rw [if_pos c42] at H
                                          have c42b0 : decide (0 ≤ x7_4) = true := decide_eq_true c42
                                          clear c42
                                          by_cases c43 : 0 ≤ (rd ((rd_T38 l0_0 (rd t236 x5_2)).f1) x7_4)
                                          · rw [if_pos c43] at H
                                            have c43b0 : decide (0 ≤ (rd ((rd_T38 l0_0 (rd t236 x5_2)).f1) x7_4)) = true := decide_eq_true c43
                                            clear c43
                                            by_cases c44 : (rd ((rd_T38 l0_0 (rd t236 x5_2)).f1) x7_4) < (x3_2.length : Int)
                                            · rw [if_pos c44] at H
                                              have c44b0 : decide ((rd ((rd_T38 l0_0 (rd t236 x5_2)).f1) x7_4) < (x3_2.length : Int)) = true := decide_eq_true c44
                                              clear c44
                                              obtain ⟨bq45, hbq45⟩ : ∃ b_ : Bool, b_ = (rdOf false x3_2 (rd ((rd_T38 l0_0 (rd t236 x5_2)).f1) x7_4)) := ⟨_, rfl⟩
                                              replace H : (if (bq45 = true) then (leatlaw8_JobOrder.l1 k4 x3_2 t236 x5_2 ((rd_T38 l0_0 (rd t236 x5_2)).f1) (wrap64 (x7_4 + 1)) l0_0) else (none)) = some r := by rw [← hbq45] at H; exact H
                                              have Nbq45 := Aside0.mk hbq45
                                              clear hbq45
                                              by_cases c46 : (bq45 = true)
                                              · subst c46
                                                have H1 : (leatlaw8_JobOrder.l1 k4 x3_2 t236 x5_2 ((rd_T38 l0_0 (rd t236 x5_2)).f1) (wrap64 (x7_4 + 1)) l0_0) = some r := by rw [if_pos rfl] at H; exact H
                                                clear H
                                                have H := H1
                                                clear H1
                                                have H' := Aside0.mk H
                                                clear H
                                                have p245 : 0 ≤ (x7_4 : Int) := of_decide_eq_true (by first | (with_reducible assumption) | assumption)
                                                have q245 : x7_4 < (((rd_T38 l0_0 (rd t236 x5_2)).f1).length : Int) := of_decide_eq_true (by first | (with_reducible assumption) | assumption)
                                                obtain ⟨ad245, e245, hx245_0⟩ := Kd.at_int HR244_1.out x7_4 p245 q245
                                                cases e245
                                                replace hx245_0 := (HB.out.cell (World.block_lt_of_cell? w _ hx245_0)).trans hx245_0
                                                replace p245 := eq_true p245
                                                replace q245 := eq_true q245
                                                obtain ⟨Ao47, co47, eo47⟩ := Kd.R_slice HO_3.out
                                                subst eo47
                                                have p246 : 0 ≤ ((rd ((rd_T38 l0_0 (rd t236 x5_2)).f1) x7_4) : Int) := of_decide_eq_true (by first | (with_reducible assumption) | assumption)
                                                have q246 : (rd ((rd_T38 l0_0 (rd t236 x5_2)).f1) x7_4) < (x3_2.length : Int) := of_decide_eq_true (by first | (with_reducible assumption) | assumption)
                                                obtain ⟨ad246, e246, hx246_0⟩ := Kd.at_bool (Kd.R_reads' HO_3.out).2.2 (rd ((rd_T38 l0_0 (rd t236 x5_2)).f1) x7_4) p246 q246
                                                (try rw [← Nbq45.out] at hx246_0)
                                                cases e246
                                                replace p246 := eq_true p246
                                                replace q246 := eq_true q246
                                                go_wp2
                                                repeat (go_quiet (fail); try go_wp2)
                                                go_roundg k4
                                                case measure => have := HJ3.out; have := HK2.out; have := HJ25.out; have := HK4.out; omega
                                                case rel => exact ⟨(wrap64 (x7_4 + 1)), (by first | rfl | (simp; done) | (simp [*]; done)), H', ⟨by have := HJ3.out; have := HK2.out; have := HJ25.out; have := HK4.out; omega⟩, ⟨by (with_reducible repeat (first | apply Kd.R_alloc | apply Kd.R_drewN | apply Kd.R_drew)); exact HO_3.out⟩, ⟨by (with_reducible repeat (first | apply Kd.R_alloc | apply Kd.R_drewN | apply Kd.R_drew)); exact HO_4.out⟩, ⟨by (with_reducible repeat (first | refine blk_drewN ?_ _ | refine blk_drew ?_ | refine blk_alloc ?_ _)); exact BK229.out⟩, ⟨by repeat (first | (with_reducible first | exact HB.out | apply below_alloc | apply pw_below_drewN | apply below_drew1 | refine below_set ?_ GE229.out) | exact HB.out)⟩⟩
                                              · replace c46 := Bool.eq_false_iff.mpr c46
                                                subst c46
                                                have H1 : (none) = some r := by rw [if_neg (show ¬ (false = true) by decide)] at H; exact H
                                                clear H
                                                have H := H1
                                                clear H1
                                                exact absurd H (by simp)
                                            · rw [if_neg c44] at H
                                              exact absurd H (by simp)
                                          · rw [if_neg c43] at H
                                            exact absurd H (by simp)
                                        · rw [if_neg c42] at H
                                          exact absurd H (by simp)
                                      · rw [if_neg c41] at H
                                        have c41b0 : decide (x7_4 < (((rd_T38 l0_0 (rd t236 x5_2)).f1).length : Int)) = false := decide_eq_false c41
                                        clear c41
                                        by_cases c48 : 0 ≤ x5_2
                                        · rw [if_pos c48] at H
                                          have c48b0 : decide (0 ≤ x5_2) = true := decide_eq_true c48
                                          clear c48
                                          by_cases c49 : x5_2 < (t236.length : Int)
                                          · rw [if_pos c49] at H
                                            have c49b0 : decide (x5_2 < (t236.length : Int)) = true := decide_eq_true c49
                                            clear c49
                                            by_cases c50 : 0 ≤ (rd t236 x5_2)
                                            · rw [if_pos c50] at H
                                              have c50b0 : decide (0 ≤ (rd t236 x5_2)) = true := decide_eq_true c50
                                              clear c50
                                              by_cases c51 : (rd t236 x5_2) < (x3_2.length : Int)
                                              · rw [if_pos c51] at H
                                                have c51b0 : decide ((rd t236 x5_2) < (x3_2.length : Int)) = true := decide_eq_true c51
                                                clear c51
                                                obtain ⟨y248, hy248⟩ : ∃ y_ : List Bool, y_ = (x3_2.set ((rd t236 x5_2) : Int).toNat true) := ⟨_, rfl⟩
                                                replace H : (leatlaw8_JobOrder.l0 k4 y248 t236 (wrap64 (x5_2 + 1)) l0_0) = some r := by first | (rw [hy248]; with_reducible exact H) | (have H2_ := (Option.bind_some _ _).symm.trans H; rw [hy248]; with_reducible exact H2_) | (have H2_ := (Option.bind_some _ _).symm.trans H; with_reducible exact H2_) | with_reducible exact H | (rw [hy248]; exact H) | exact H
                                                have Ny248 := Aside0.mk hy248
                                                clear hy248
                                                have H' := Aside0.mk H
                                                clear H
                                                have p247 : 0 ≤ (x5_2 : Int) := of_decide_eq_true (by first | (with_reducible assumption) | assumption)
                                                have q247 : x5_2 < (t236.length : Int) := of_decide_eq_true (by first | (with_reducible assumption) | assumption)
                                                obtain ⟨ad247, e247, hx247_0⟩ := Kd.at_int (Kd.R_reads' HO_4.out).2.2 x5_2 p247 q247
                                                obtain rfl : ad243 = ad247 := (by injection e247)
                                                replace p247 := eq_true p247
                                                replace q247 := eq_true q247
                                                have p52 : 0 ≤ ((rd t236 x5_2) : Int) := of_decide_eq_true (by first | (with_reducible assumption) | assumption)
                                                have q52 : ((rd t236 x5_2) : Int) < ((x3_2.length : Int) : Int) := of_decide_eq_true (by first | (with_reducible assumption) | assumption)
                                                obtain ⟨go52, co52, eo52, gb52, gl52, cl52, HG52⟩ := Kd.R_form HO_3.out (by omega)
                                                (first | cases eo52 | (injection eo52 with ea_ en_ ec_; (first | subst ea_ | (injection ea_ with ea_; subst ea_)); subst ec_; clear en_))
                                                have GB52 := Aside0.mk gb52
                                                have GG52 := Aside0.mk HG52
                                                clear gb52 gl52 HG52
                                                obtain ⟨hx52_0, hf52_0⟩ := Kd.R_celln false HO_3.out ((rd t236 x5_2) : Int) p52 q52
                                                replace p52 := eq_true p52
                                                replace q52 := eq_true q52
                                                have HP53 := Kd.R_putg HO_3.out ((rd t236 x5_2) : Int) true
                                                go_wp2_with (first | ((with_reducible refine gate_store (t := 4) (p := 81) rfl ?_); (try (rw [drewN_self wr]; generalize hq_ : World.drewN wr _ = wr; have n0_ := Aside0.mk (Kd.R_at hq_ HO_3.out); have n1_ := Aside0.mk (Kd.R_at hq_ HO_4.out); have n2_ := Aside0.mk (blk_at hq_ BK229.out); have n3_ := Aside0.mk (below_at hq_ HB.out); clear hq_ HO_3 HO_4 BK229 HB; have HO_3 := n0_; have HO_4 := n1_; have BK229 := n2_; have HB := n3_; clear n0_ n1_ n2_ n3_; (try (have HP53 := Kd.R_putg HO_3.out ((rd t236 x5_2) : Int) true)))); refine store_event (t := 4) (p := 81) (v := ?vo_w54) (w1 := (wr.setCell ⟨go52, ((rd t236 x5_2) : Int).toNat, none⟩ (.bool true))) ?hg ?ho ?hn ?hr ?_; (case ho => rfl); (case hg => rfl); (case hn => rfl); (case hr => first | (go_simp; done) | (go_simp; rfl)); intro w54 hw; have hg : wr.grownBy w54 (some go52) := (by rw [hw]; exact HP53.2); have hp_ : Kd.R Kd.bool 4 w54 w.heap.size (fun _ => True) (.slice (some ⟨go52, 0, none⟩) x3_2.length co52) y248 := (by rw [hw, Ny248.out]; exact HP53.1); clear HP53; have n0_ := Aside0.mk (hp_); have n1_ := Aside0.mk (Kd.R_over' (v := (.slice (some ⟨go52, 0, none⟩) x3_2.length co52)) (by (with_reducible repeat (first | apply Kd.R_alloc | apply Kd.R_drewN | apply Kd.R_drew)); exact HO_4.out) (Kd.R_typed HO_3.out) (by decide) hg); have n2_ := Aside0.mk (blk_grown (g := gb229) (o := .cells #[.slice (some ad244) l0_0.length c0_0] 24 (0, 0)) (by (with_reducible repeat (first | refine blk_drewN ?_ _ | refine blk_drew ?_ | refine blk_alloc ?_ _)); exact BK229.out) hg (Kd.R_ne HO_3.out BK229.out (by decide))); have n3_ := Aside0.mk ((by rw [hw]; exact below_set (HB.out) GB52.out : Below w.heap.size w w54)); clear HO_3; clear HO_4; clear BK229; clear HB; have HO_3 := n0_; have HO_4 := n1_; have BK229 := n2_; have HB := n3_; clear n0_ n1_ n2_ n3_; clear hg hw hp_))
                                                repeat (go_quiet (first | ((with_reducible refine gate_store (t := 4) (p := 81) rfl ?_); (try (rw [drewN_self wr]; generalize hq_ : World.drewN wr _ = wr; have n0_ := Aside0.mk (Kd.R_at hq_ HO_3.out); have n1_ := Aside0.mk (Kd.R_at hq_ HO_4.out); have n2_ := Aside0.mk (blk_at hq_ BK229.out); have n3_ := Aside0.mk (below_at hq_ HB.out); clear hq_ HO_3 HO_4 BK229 HB; have HO_3 := n0_; have HO_4 := n1_; have BK229 := n2_; have HB := n3_; clear n0_ n1_ n2_ n3_; (try (have HP53 := Kd.R_putg HO_3.out ((rd t236 x5_2) : Int) true)))); refine store_event (t := 4) (p := 81) (v := ?vo_w54) (w1 := (wr.setCell ⟨go52, ((rd t236 x5_2) : Int).toNat, none⟩ (.bool true))) ?hg ?ho ?hn ?hr ?_; (case ho => rfl); (case hg => rfl); (case hn => rfl); (case hr => first | (go_simp; done) | (go_simp; rfl)); intro w54 hw; have hg : wr.grownBy w54 (some go52) := (by rw [hw]; exact HP53.2); have hp_ : Kd.R Kd.bool 4 w54 w.heap.size (fun _ => True) (.slice (some ⟨go52, 0, none⟩) x3_2.length co52) y248 := (by rw [hw, Ny248.out]; exact HP53.1); clear HP53; have n0_ := Aside0.mk (hp_); have n1_ := Aside0.mk (Kd.R_over' (v := (.slice (some ⟨go52, 0, none⟩) x3_2.length co52)) (by (with_reducible repeat (first | apply Kd.R_alloc | apply Kd.R_drewN | apply Kd.R_drew)); exact HO_4.out) (Kd.R_typed HO_3.out) (by decide) hg); have n2_ := Aside0.mk (blk_grown (g := gb229) (o := .cells #[.slice (some ad244) l0_0.length c0_0] 24 (0, 0)) (by (with_reducible repeat (first | refine blk_drewN ?_ _ | refine blk_drew ?_ | refine blk_alloc ?_ _)); exact BK229.out) hg (Kd.R_ne HO_3.out BK229.out (by decide))); have n3_ := Aside0.mk ((by rw [hw]; exact below_set (HB.out) GB52.out : Below w.heap.size w w54)); clear HO_3; clear HO_4; clear BK229; clear HB; have HO_3 := n0_; have HO_4 := n1_; have BK229 := n2_; have HB := n3_; clear n0_ n1_ n2_ n3_; clear hg hw hp_)); try go_wp2_with (first | ((with_reducible refine gate_store (t := 4) (p := 81) rfl ?_); (try (rw [drewN_self wr]; generalize hq_ : World.drewN wr _ = wr; have n0_ := Aside0.mk (Kd.R_at hq_ HO_3.out); have n1_ := Aside0.mk (Kd.R_at hq_ HO_4.out); have n2_ := Aside0.mk (blk_at hq_ BK229.out); have n3_ := Aside0.mk (below_at hq_ HB.out); clear hq_ HO_3 HO_4 BK229 HB; have HO_3 := n0_; have HO_4 := n1_; have BK229 := n2_; have HB := n3_; clear n0_ n1_ n2_ n3_; (try (have HP53 := Kd.R_putg HO_3.out ((rd t236 x5_2) : Int) true)))); refine store_event (t := 4) (p := 81) (v := ?vo_w54) (w1 := (wr.setCell ⟨go52, ((rd t236 x5_2) : Int).toNat, none⟩ (.bool true))) ?hg ?ho ?hn ?hr ?_; (case ho => rfl); (case hg => rfl); (case hn => rfl); (case hr => first | (go_simp; done) | (go_simp; rfl)); intro w54 hw; have hg : wr.grownBy w54 (some go52) := (by rw [hw]; exact HP53.2); have hp_ : Kd.R Kd.bool 4 w54 w.heap.size (fun _ => True) (.slice (some ⟨go52, 0, none⟩) x3_2.length co52) y248 := (by rw [hw, Ny248.out]; exact HP53.1); clear HP53; have n0_ := Aside0.mk (hp_); have n1_ := Aside0.mk (Kd.R_over' (v := (.slice (some ⟨go52, 0, none⟩) x3_2.length co52)) (by (with_reducible repeat (first | apply Kd.R_alloc | apply Kd.R_drewN | apply Kd.R_drew)); exact HO_4.out) (Kd.R_typed HO_3.out) (by decide) hg); have n2_ := Aside0.mk (blk_grown (g := gb229) (o := .cells #[.slice (some ad244) l0_0.length c0_0] 24 (0, 0)) (by (with_reducible repeat (first | refine blk_drewN ?_ _ | refine blk_drew ?_ | refine blk_alloc ?_ _)); exact BK229.out) hg (Kd.R_ne HO_3.out BK229.out (by decide))); have n3_ := Aside0.mk ((by rw [hw]; exact below_set (HB.out) GB52.out : Below w.heap.size w w54)); clear HO_3; clear HO_4; clear BK229; clear HB; have HO_3 := n0_; have HO_4 := n1_; have BK229 := n2_; have HB := n3_; clear n0_ n1_ n2_ n3_; clear hg hw hp_)))
                                                go_roundg k4
                                                case measure => have := HJ3.out; have := HK2.out; have := HJ25.out; have := HK4.out; omega
                                                case rel => exact ⟨(y248), (wrap64 (x5_2 + 1)), (by first | rfl | (simp; done) | (simp [*]; done)), H', ⟨by have := HJ3.out; have := HK2.out; have := HJ25.out; have := HK4.out; omega⟩, ⟨by (with_reducible repeat (first | apply Kd.R_alloc | apply Kd.R_drewN | apply Kd.R_drew)); exact HO_3.out⟩, ⟨by (with_reducible repeat (first | apply Kd.R_alloc | apply Kd.R_drewN | apply Kd.R_drew)); exact HO_4.out⟩, ⟨by (with_reducible repeat (first | refine blk_drewN ?_ _ | refine blk_drew ?_ | refine blk_alloc ?_ _)); exact BK229.out⟩, ⟨by repeat (first | (with_reducible first | exact HB.out | apply below_alloc | apply pw_below_drewN | apply below_drew1 | refine below_set ?_ GE229.out) | exact HB.out)⟩⟩
                                              · rw [if_neg c51] at H
                                                exact absurd H (by simp)
                                            · rw [if_neg c50] at H
                                              exact absurd H (by simp)
                                          · rw [if_neg c49] at H
                                            exact absurd H (by simp)
                                        · rw [if_neg c48] at H
                                          exact absurd H (by simp)
                                · rw [if_neg c39] at H
                                  exact absurd H (by simp)
                              · rw [if_neg c38] at H
                                exact absurd H (by simp)
                            · rw [if_neg c37] at H
                              exact absurd H (by simp)
                          · rw [if_neg c36] at H
                            exact absurd H (by simp)
                  · rw [if_neg c25] at H
                    have c25b0 : decide (x5_2 < (t236.length : Int)) = false := decide_eq_false c25
                    clear c25
                    obtain rfl := Option.some.inj H
                    obtain ⟨Ao55, co55, eo55⟩ := Kd.R_slice HO_4.out
                    subst eo55
                    obtain ⟨Ao56, co56, eo56⟩ := Kd.R_slice HO_3.out
                    subst eo56
                    go_wp2
                    repeat (go_quiet (fail); try go_wp2)
                    go_ret
                    exact ⟨by first | rfl | (simp [errW_none, errW_some] <;> rfl) | (simp [*, errW_none, errW_some] <;> rfl), by repeat (first | (with_reducible first | exact HB.out | apply below_alloc | apply pw_below_drewN | apply below_drew1 | refine below_set ?_ GE229.out) | exact HB.out)⟩
            · rw [if_neg c18] at H
              exact absurd H (by simp)
          · rw [if_neg c17] at H
            exact absurd H (by simp)
  · replace c3 := Bool.eq_false_iff.mpr c3
    subst c3
    have H1 : (none) = some r := by rw [if_neg (show ¬ (false = true) by decide)] at H; exact H
    clear H
    have H := H1
    clear H1
    exact absurd H (by simp)

end Go.Proofs.Ytpbmfdbfimcpjaa.X
-- written by wip/myprint.py out of the translation
namespace Go.Proofs.Ytpbmfdbfimcpjaa.Op
open Go.RowKit Go.Proofs.YtpbmfdbfimcpjaaW.PrintWords Go.Proofs.Ytpbmfdbfimcpjaa.X
/-- THE ONE PURE STATEMENT of leatlaw8_JobOrder. -/
def JobOrderPure : Prop := ∀ (l0_0 : List (S38)), (l0_0.length * 112 ≤ 140737488351232 ∧ l0_0.length ≤ 9223372036854775807 ∧ ∀ x ∈ l0_0, Good38 x) → ∃ k, leatlaw8_JobOrder.f k l0_0 = some true
end Go.Proofs.Ytpbmfdbfimcpjaa.Op
namespace Go.Proofs.Ytpbmfdbfimcpjaa.X
open Go.RowKit Go.Proofs.YtpbmfdbfimcpjaaW.PrintWords
set_option linter.unusedVariables false
set_option linter.unusedSimpArgs false

section
variable {α β : Type}
theorem ev_pos {c : Prop} [Decidable c] {f g : Nat → Option α} {r : α} (h : c) (k : Ev f r) : Ev (fun n => if c then f n else g n) r := Ev.congr (fun _ => if_pos h) k
theorem ev_neg {c : Prop} [Decidable c] {f g : Nat → Option α} {r : α} (h : ¬ c) (k : Ev g r) : Ev (fun n => if c then f n else g n) r := Ev.congr (fun _ => if_neg h) k
theorem ev_now {r r' : α} (h : r' = r) : Ev (fun _ => some r') r := h ▸ Ev.now _
/-- It comes to something of which P holds. -/
def Sp (P : α → Prop) (f : Nat → Option α) : Prop := ∃ r, P r ∧ Ev f r
theorem sp_now {P : α → Prop} {r : α} (h : P r) : Sp P (fun _ => some r) := ⟨r, h, Ev.now r⟩
theorem sp_ite {P : α → Prop} {c : Prop} [Decidable c] {f g : Nat → Option α} (h : c → Sp P f) (k : ¬ c → Sp P g) : Sp P (fun n => if c then f n else g n) := by
  by_cases hc : c
  · obtain ⟨r, hp, hr⟩ := h hc; exact ⟨r, hp, ev_pos hc hr⟩
  · obtain ⟨r, hp, hr⟩ := k hc; exact ⟨r, hp, ev_neg hc hr⟩
theorem sp_bind {P : α → Prop} {Q : β → Prop} {g : Nat → Option α} {f : Nat → α → Option β} (h : Sp P g) (k : ∀ a, P a → Sp Q (fun n => f n a)) : Sp Q (fun n => (g n).bind (f n)) := by
  obtain ⟨a, hp, ha⟩ := h
  obtain ⟨r, hq, hr⟩ := k a hp
  exact ⟨r, hq, Ev.bind ha hr⟩
theorem sp_step {P : α → Prop} {g f : Nat → Option α} (h : ∀ k, g (k + 1) = f k) (k : Sp P f) : Sp P g := by
  obtain ⟨r, hp, hr⟩ := k; exact ⟨r, hp, Ev.step h hr⟩
theorem sp_congr {P : α → Prop} {g f : Nat → Option α} (h : ∀ k, g k = f k) (k : Sp P f) : Sp P g := by
  obtain ⟨r, hp, hr⟩ := k; exact ⟨r, hp, Ev.congr h hr⟩
theorem sp_mono {P Q : α → Prop} {f : Nat → Option α} (h : Sp P f) (k : ∀ r, P r → Q r) : Sp Q f := by
  obtain ⟨r, hp, hr⟩ := h; exact ⟨r, k r hp, hr⟩
theorem sp_some {P : α → Prop} {f : Nat → Option α} {r : α} (h : Ev f r) (hp : P r) : Sp P f := ⟨r, hp, h⟩
abbrev Any {α : Type} (_ : α) : Prop := True
end
theorem step_i {i n : Nat} (h : i < n) (hn : n ≤ 9223372036854775807) : wrap64 ((i : Int) + 1) = ((i + 1 : Nat) : Int) := by unfold wrap64; omega
theorem rd_at {l : List Int} {i : Nat} (h : i < l.length) : rd l (i : Int) = l[i] := by simp [rd, h]
theorem rd34_at {l : List S34} {i : Nat} (h : i < l.length) : rd_T34 l (i : Int) = l[i] := by simp [rd_T34, h]
theorem rd38_at {l : List S38} {i : Nat} (h : i < l.length) : rd_T38 l (i : Int) = l[i] := by simp [rd_T38, h]

/-! ### expressions: whatever they are, their check comes to something -/
def SmallD : Nat → S34 → Prop
  | 0, _ => False
  | d + 1, e => e.f2.length ≤ 9223372036854775807 ∧ ∀ x ∈ e.f2, SmallD d x

theorem arity_some (op : Int) : Sp Any (fun k => expr_arity.f k op) := by
  have j : ∀ x b, Sp Any (fun k => expr_arity.j0 k op x b) := fun x b => by
    refine sp_step (f := fun _ => _) (fun k => by rw [expr_arity.j0]) ?_
    exact sp_ite (fun _ => sp_now trivial) (fun _ => sp_ite (fun _ => sp_now trivial) (fun _ => sp_ite (fun _ => sp_ite (fun _ => sp_now trivial) (fun _ => sp_now trivial)) (fun _ => sp_now trivial)))
  unfold expr_arity.f
  exact sp_ite (fun _ => sp_now trivial) (fun _ => sp_ite (fun _ => j _ _) (fun _ => sp_ite (fun _ => j _ _) (fun _ => j _ _)))

theorem right_some : ∀ (d : Nat) (e : S34), SmallD d e → Sp Any (fun k => expr_right.f k e.f0 e.f1 e.f2)
  | 0, _, h => h.elim
  | d + 1, e, ⟨hl, hx⟩ => by
    have loop : ∀ (m i : Nat), e.f2.length = i + m → Sp Any (fun k => expr_right.l0 k e.f2 (e.f2.length : Int) (i : Int)) := by
      intro m
      induction m with
      | zero =>
        intro i hi
        refine sp_step (f := fun _ => some true) (fun k => ?_) (sp_now trivial)
        rw [expr_right.l0, if_neg (by omega)]
      | succ m ih =>
        intro i hi
        have hlt : i < e.f2.length := by omega
        refine sp_step (f := ?f1) (fun k => ?h1) ?r1
        case h1 => conv => lhs; rw [expr_right.l0, if_pos (by omega), if_pos (by omega), if_pos (by omega), rd34_at hlt, step_i hlt hl]
        exact sp_bind (right_some d _ (hx _ (List.getElem_mem hlt))) (fun t _ => sp_ite (fun _ => ih (i + 1) (by omega)) (fun _ => sp_now trivial))
    have j : ∀ b, Sp Any (fun k => expr_right.j0 k b e.f0 e.f1 e.f2) := by
      intro b
      refine sp_step (f := ?f2) (fun k => ?h2) ?r2
      case h2 => conv => lhs; rw [expr_right.j0]
      exact sp_ite (fun _ => sp_now trivial) (fun _ => loop e.f2.length 0 (by omega))
    refine sp_step (f := ?f3) (fun k => ?h3) ?r3
    case h3 => conv => lhs; rw [expr_right.f]
    exact sp_bind (arity_some _) (fun t _ => sp_ite (fun _ => sp_ite (fun _ => j _) (fun _ => j _)) (fun _ => j _))
theorem size_some : ∀ (d : Nat) (e : S34), SmallD d e → Sp Any (fun k => expr_size.f k e.f0 e.f1 e.f2)
  | 0, _, h => h.elim
  | d + 1, e, ⟨hl, hx⟩ => by
    have loop : ∀ (m i : Nat) (a b : Int), e.f2.length = i + m → Sp Any (fun k => expr_size.l0 k a b e.f2 (e.f2.length : Int) (i : Int)) := by
      intro m
      induction m with
      | zero =>
        intro i a b hi
        refine sp_step (f := ?f1) (fun k => ?h1) ?r1
        case h1 => conv => lhs; rw [expr_size.l0, if_neg (by omega)]
        exact sp_now trivial
      | succ m ih =>
        intro i a b hi
        have hlt : i < e.f2.length := by omega
        refine sp_step (f := ?f5) (fun k => ?h5) ?r5
        case h5 => conv => lhs; rw [expr_size.l0, if_pos (by omega), if_pos (by omega), if_pos (by omega), rd34_at hlt, step_i hlt hl]
        exact sp_bind (size_some d _ (hx _ (List.getElem_mem hlt))) (fun t _ => ih (i + 1) _ _ (by omega))
    refine sp_step (f := ?f3) (fun k => ?h3) ?r3
    case h3 => conv => lhs; rw [expr_size.f]
    exact loop e.f2.length 0 _ _ (by omega)
theorem check_some (d : Nat) (e : S34) (h : SmallD d e) : Sp Any (fun k => expr_Check.f k e.f0 e.f1 e.f2) := by
  unfold expr_Check.f
  exact sp_bind (right_some d e h) (fun t _ => sp_ite (fun _ => sp_bind (size_some d e h) (fun t _ => sp_ite (fun _ => sp_now trivial) (fun _ => sp_ite (fun _ => sp_now trivial) (fun _ => sp_now trivial)))) (fun _ => sp_now trivial))

/-! ### the nodes -/
theorem win_some (a b c : Int) : Sp (fun t => t = true → a = 2 → 1 ≤ c) (fun k => job_win.f k a b c) := by
  have sp : ∀ x, Sp (fun t => t = true → 1 ≤ x) (fun _ => job_span.f x) := fun x => by
    unfold job_span.f
    exact sp_ite (fun h => sp_now (fun _ => h)) (fun h => sp_now (by simp))
  have j : ∀ v, (v = true → a ≠ 2) → Sp (fun t => t = true → a = 2 → 1 ≤ c) (fun k => job_win.j0 k a v a b c) := fun v hv => by
    refine sp_step (f := ?f2) (fun k => ?h2) ?r2
    case h2 => conv => lhs; rw [job_win.j0]
    refine sp_ite (fun h => sp_bind (sp b) (fun t _ => sp_ite (fun _ => sp_now (fun _ ha => absurd ha (hv h))) (fun _ => sp_now (by simp)))) (fun _ => sp_ite (fun _ => sp_bind (sp b) (fun t _ => sp_ite (fun _ => sp_bind (sp c) (fun t ht => sp_now (fun h _ => ht h))) (fun _ => sp_now (by simp)))) (fun _ => sp_now (by simp)))
  unfold job_win.f
  exact sp_ite (fun h => j _ (by intro _; omega)) (fun _ => j _ (by intro h; have : a = 3 := (by simpa using h); omega))

def SlideOk (x : S38) : Prop := x.f0 = 7 → x.f5.f0 = 2 → 1 ≤ x.f5.f2
theorem node_some (l : List S38) (x : S38) (d : Nat) (hd : SmallD d x.f3) :
    Sp (fun c => c = 0 → SlideOk x) (fun k => job_node.f k l x.f0 x.f1 x.f2 x.f3.f0 x.f3.f1 x.f3.f2 x.f4 x.f5.f0 x.f5.f1 x.f5.f2) := by
  have n0 : ∀ c : Int, c ≠ 0 → (c = 0 → SlideOk x) := fun c h h' => absurd h' h
  have j5 : ∀ b, Sp (fun c => c = 0 → SlideOk x) (fun k => job_node.j5 k b x.f0 x.f1 x.f2 x.f3.f0 x.f3.f1 x.f3.f2 x.f4 x.f5.f0 x.f5.f1 x.f5.f2) := fun b => by
    refine sp_step (f := ?f1) (fun k => ?h1) ?r1
    case h1 => conv => lhs; rw [job_node.j5]
    exact sp_ite (fun _ => sp_now (n0 _ (by decide))) (fun _ => sp_ite (fun _ => sp_bind (win_some _ _ _) (fun t ht => sp_ite (fun h => sp_now (fun _ _ h2 => ht h h2)) (fun _ => sp_now (n0 _ (by decide))))) (fun h7 => sp_ite (fun _ => sp_now (n0 _ (by decide))) (fun _ => sp_now (fun _ h => absurd h h7))))
  have j4 : ∀ a b, Sp (fun c => c = 0 → SlideOk x) (fun k => job_node.j4 k a b x.f0 x.f1 x.f2 x.f3.f0 x.f3.f1 x.f3.f2 x.f4 x.f5.f0 x.f5.f1 x.f5.f2) := fun a b => by
    refine sp_step (f := ?f2) (fun k => ?h2) ?r2
    case h2 => conv => lhs; rw [job_node.j4]
    exact sp_ite (fun _ => sp_now (n0 _ (by decide))) (fun _ => sp_ite (fun _ => sp_ite (fun _ => j5 _) (fun _ => sp_ite (fun _ => j5 _) (fun _ => j5 _))) (fun _ => j5 _))
  have j3 : ∀ a b c, Sp (fun c => c = 0 → SlideOk x) (fun k => job_node.j3 k a b c x.f0 x.f1 x.f2 x.f3.f0 x.f3.f1 x.f3.f2 x.f4 x.f5.f0 x.f5.f1 x.f5.f2) := fun a b c => by
    refine sp_step (f := ?f3) (fun k => ?h3) ?r3
    case h3 => conv => lhs; rw [job_node.j3]
    refine sp_ite (fun _ => sp_now (n0 _ (by decide))) (fun _ => sp_ite (fun _ => sp_bind (check_some d x.f3 hd) (fun t _ => sp_ite (fun _ => j4 _ _) (fun _ => j4 _ _))) (fun _ => sp_bind (P := Any) ?_ (fun t _ => j4 _ _)))
    unfold job_zero.f
    exact sp_ite (fun _ => sp_ite (fun _ => sp_now trivial) (fun _ => sp_now trivial)) (fun _ => sp_now trivial)
  have j2 : ∀ a b c, Sp (fun c => c = 0 → SlideOk x) (fun k => job_node.j2 k a b c l x.f0 x.f1 x.f2 x.f3.f0 x.f3.f1 x.f3.f2 x.f4 x.f5.f0 x.f5.f1 x.f5.f2) := fun a b c => by
    refine sp_step (f := ?f4) (fun k => ?h4) ?r4
    case h4 => conv => lhs; rw [job_node.j2]
    exact sp_ite (fun _ => sp_now (n0 _ (by decide))) (fun _ => sp_bind (P := Any) (sp_now trivial) (fun t _ => sp_ite (fun _ => sp_ite (fun _ => j3 _ _ _) (fun _ => j3 _ _ _)) (fun _ => sp_now (n0 _ (by decide)))))
  have j1 : ∀ a b, Sp (fun c => c = 0 → SlideOk x) (fun k => job_node.j1 k a b l x.f0 x.f1 x.f2 x.f3.f0 x.f3.f1 x.f3.f2 x.f4 x.f5.f0 x.f5.f1 x.f5.f2) := fun a b => by
    refine sp_step (f := ?f5) (fun k => ?h5) ?r5
    case h5 => conv => lhs; rw [job_node.j1]
    exact sp_ite (fun _ => j2 _ _ _) (fun _ => j2 _ _ _)
  have j0 : ∀ a, Sp (fun c => c = 0 → SlideOk x) (fun k => job_node.j0 k a l x.f0 x.f1 x.f2 x.f3.f0 x.f3.f1 x.f3.f2 x.f4 x.f5.f0 x.f5.f1 x.f5.f2) := fun a => by
    refine sp_step (f := ?f6) (fun k => ?h6) ?r6
    case h6 => conv => lhs; rw [job_node.j0]
    exact sp_ite (fun _ => j1 _ _) (fun _ => j1 _ _)
  unfold job_node.f
  exact sp_ite (fun _ => j0 _) (fun _ => sp_ite (fun _ => j0 _) (fun _ => j0 _))
def SmallN (x : S38) : Prop := x.f1.length ≤ 9223372036854775807 ∧ ∃ d, SmallD d x.f3

theorem shape_some (l : List S38) (hl : l.length < 17592186044416) (hs : ∀ x ∈ l, SmallN x) :
    Sp (fun c => c = 0 → (∀ x ∈ l, SlideOk x) ∧ l.length ≤ (jobOrder l).length ∧ l.length ≤ 12) (fun k => job_shape.f k l) := by
  have loop : ∀ (m i : Nat), l.length = i + m → (∀ j (hj : j < l.length), j < i → SlideOk l[j]) → l.length ≤ 12 →
      Sp (fun c => c = 0 → (∀ x ∈ l, SlideOk x) ∧ l.length ≤ (jobOrder l).length ∧ l.length ≤ 12) (fun k => job_shape.l0 k l (l.length : Int) (i : Int) l) := by
    intro m
    induction m with
    | zero =>
      intro i hi hj h12
      refine sp_step (f := ?f1) (fun k => ?h1) ?r1
      case h1 => conv => lhs; rw [job_shape.l0, if_neg (by omega)]
      refine sp_bind (P := fun o => o = jobOrder l) (sp_now (r := jobOrder l) rfl |> sp_congr (fun k => by rw [job_Order.f, if_pos hl])) (fun o ho => ?_)
      subst ho
      refine sp_ite (fun _ => sp_now (by intro h; cases h)) (fun h => sp_now (fun _ => ⟨fun x hx => ?_, by omega, h12⟩))
      obtain ⟨j, hj', rfl⟩ := List.getElem_of_mem hx
      exact hj j hj' (by omega)
    | succ m ih =>
      intro i hi hj h12
      have hlt : i < l.length := by omega
      refine sp_step (f := ?f2) (fun k => ?h2) ?r2
      case h2 => conv => lhs; rw [job_shape.l0, if_pos (by omega), if_pos (by omega), if_pos (by omega), rd38_at hlt, step_i hlt (by omega)]
      obtain ⟨_, d, hd⟩ := hs _ (List.getElem_mem hlt)
      refine sp_bind (node_some l _ d hd) (fun t ht => sp_ite (fun h => ih (i + 1) (by omega) (fun j hj' hji => ?_) h12) (fun h => sp_now (fun h' => absurd h' h)))
      rcases Nat.lt_or_ge j i with h1 | h1
      · exact hj j hj' h1
      · obtain rfl : j = i := by omega
        exact ht h
  have j0 : ∀ b, (b = false → l.length ≤ 12) → Sp (fun c => c = 0 → (∀ x ∈ l, SlideOk x) ∧ l.length ≤ (jobOrder l).length ∧ l.length ≤ 12) (fun k => job_shape.j0 k b l) := by
    intro b hb
    refine sp_step (f := ?f3) (fun k => ?h3) ?r3
    case h3 => conv => lhs; rw [job_shape.j0]
    exact sp_ite (fun _ => sp_now (by intro h; cases h)) (fun h => loop l.length 0 (by omega) (fun _ _ h => absurd h (by omega)) (hb (by simpa using h)))
  unfold job_shape.f
  exact sp_ite (fun _ => j0 _ (by simp)) (fun _ => j0 _ (fun h => by have := of_decide_eq_false h; omega))
end Go.Proofs.Ytpbmfdbfimcpjaa.X
namespace Go.Proofs.Ytpbmfdbfimcpjaa.X
open Go.RowKit Go.Proofs.YtpbmfdbfimcpjaaW.PrintWords
set_option linter.unusedVariables false
set_option linter.unusedSimpArgs false

/-- The order's trace: each one is ready where it is taken. -/
def Tr (l : List S38) : List Bool → List Int → Prop
  | _, [] => True
  | ins, o :: os => ∃ i : Nat, o = (i : Int) ∧ i < l.length ∧ readyN l ins i = true ∧ Tr l (ins.set i true) os
theorem next_of {l : List S38} {ins : List Bool} {i : Nat} (h : nextN l ins = some i) : i < l.length ∧ readyN l ins i = true := by
  unfold nextN at h
  exact ⟨List.mem_range.1 (List.mem_of_find?_eq_some h), List.find?_some h⟩
theorem tr_go (l : List S38) : ∀ (k : Nat) (ins : List Bool) (out : List Int), ∃ os, orderGo l k ins out = out ++ os ∧ Tr l ins os
  | 0, ins, out => ⟨[], by simp [orderGo], trivial⟩
  | k + 1, ins, out => by
    cases hn : nextN l ins with
    | none => exact ⟨[], by rw [order_none hn]; simp, trivial⟩
    | some i =>
      obtain ⟨h1, h2⟩ := next_of hn
      obtain ⟨os, he, ht⟩ := tr_go l k (ins.set i true) (out ++ [(i : Int)])
      exact ⟨(i : Int) :: os, by rw [order_some hn, he]; simp, i, rfl, h1, h2, ht⟩
theorem ready_not {l : List S38} {ins : List Bool} {i : Nat} (h : readyN l ins i = true) : ins.getD i false = false := by
  unfold readyN at h; rw [Bool.and_eq_true] at h; simpa using h.1
theorem ready_may {l : List S38} {ins : List Bool} {i : Nat} (hi : i < l.length) (h : readyN l ins i = true) : ∀ x ∈ l[i].f1, 0 ≤ x ∧ x < ins.length ∧ ins.getD x.toNat false = true := by
  unfold readyN at h; rw [Bool.and_eq_true] at h
  have h2 := h.2
  rw [List.getD_eq_getElem?_getD, List.getElem?_eq_getElem hi] at h2
  intro x hx
  have h3 := List.all_eq_true.1 h2 x hx
  unfold mayB at h3
  simp only [Bool.and_eq_true, decide_eq_true_eq] at h3
  exact h3
theorem tr_len (l : List S38) : ∀ (os : List Int) (ins : List Bool), ins.length = l.length → Tr l ins os → os.length ≤ ins.count false
  | [], ins, _, _ => Nat.zero_le _
  | o :: os, ins, hl, ⟨i, ho, hi, hr, ht⟩ => by
    have h1 := tr_len l os (ins.set i true) (by simp [hl]) ht
    have h2 := count_step (i := i) (by omega) (ready_not hr)
    rw [List.length_cons]; omega
def OkN (l : List S38) (o : Int) : Prop := ∃ i : Nat, o = (i : Int) ∧ ∃ h : i < l.length, ∀ x ∈ l[i].f1, 0 ≤ x ∧ x < l.length
theorem tr_ok (l : List S38) : ∀ (os : List Int) (ins : List Bool), ins.length = l.length → Tr l ins os → ∀ o ∈ os, OkN l o
  | [], _, _, _, o, h => by simp at h
  | o' :: os, ins, hl, ⟨i, hi', hi, hr, ht⟩, o, h => by
    rcases List.mem_cons.1 h with rfl | h
    · exact ⟨i, hi', hi, fun x hx => by have := ready_may hi hr x hx; omega⟩
    · exact tr_ok l os (ins.set i true) (by simp [hl]) ht o h
theorem order_tr (l : List S38) : Tr l (List.replicate l.length false) (jobOrder l) := by
  obtain ⟨os, he, ht⟩ := tr_go l (l.length + 1) (List.replicate l.length false) []
  unfold jobOrder
  rw [he]; exact ht
theorem order_len (l : List S38) : (jobOrder l).length ≤ l.length := by
  have h := tr_len l _ _ (by simp) (order_tr l)
  simpa using h
theorem order_ok (l : List S38) : ∀ o ∈ jobOrder l, OkN l o := tr_ok l _ _ (by simp) (order_tr l)

theorem weights_l0 (l : List S38) (ord : List Int) (hl : l.length ≤ 12) (hol : ord.length ≤ 12) (hs : ∀ x ∈ l, SmallN x) (hsl : ∀ x ∈ l, SlideOk x) (hok : ∀ o ∈ ord, OkN l o) :
    ∀ (m i : Nat) (x3 : List Int), ord.length = i + m → x3.length = l.length → Sp (fun r => r.length = l.length) (fun k => job_weights.l0 k x3 ord (ord.length : Int) (i : Int) l) := by
  intro m
  induction m with
  | zero =>
    intro i x3 hi h3
    refine sp_step (f := ?f1) (fun k => ?h1) ?r1
    case h1 => conv => lhs; rw [job_weights.l0, if_neg (by omega)]
    exact sp_now h3
  | succ m ih =>
    intro i x3 hi h3
    have hlt : i < ord.length := by omega
    obtain ⟨o, ho, hlo, hin⟩ := hok _ (List.getElem_mem hlt)
    have hrd : rd ord (i : Int) = (o : Int) := (rd_at hlt).trans ho
    have hr38 : rd_T38 l (o : Int) = l[o] := rd38_at hlo
    have hst : wrap64 ((i : Int) + 1) = ((i + 1 : Nat) : Int) := step_i hlt (by omega)
    have cont : ∀ z, Sp (fun r => r.length = l.length) (fun k => job_weights.l0 k (x3.set ((o : Int).toNat) z) ord (ord.length : Int) (wrap64 ((i : Int) + 1)) l) := fun z => by
      rw [hst]; exact ih (i + 1) _ (by omega) (by simp [h3])
    have hsm := (hs _ (List.getElem_mem hlo)).1
    have hso := hsl _ (List.getElem_mem hlo)
    have inner : ∀ (m' j : Nat) (x7 : Int), l[o].f1.length = j + m' → Sp (fun r => r.length = l.length) (fun k => job_weights.l1 k x3 (o : Int) x7 ord (ord.length : Int) (i : Int) l[o].f1 (l[o].f1.length : Int) (j : Int) l l[o].f0 l[o].f1 l[o].f2 l[o].f3.f0 l[o].f3.f1 l[o].f3.f2 l[o].f4 l[o].f5.f0 l[o].f5.f1 l[o].f5.f2) := by
      intro m'
      induction m' with
      | zero =>
        intro j x7 hj
        refine sp_step (f := ?f2) (fun k => ?h2) ?r2
        case h2 => conv => lhs; rw [job_weights.l1, if_neg (by omega)]
        have put : ∀ z, Sp (fun r => r.length = l.length) (fun k => if 0 ≤ (o : Int) then (if (o : Int) < (x3.length : Int) then (job_weights.l0 k (x3.set ((o : Int).toNat) z) ord (ord.length : Int) (wrap64 ((i : Int) + 1)) l) else none) else none) := fun z =>
          sp_ite (fun _ => sp_ite (fun _ => cont z) (fun h => absurd h (by omega))) (fun h => absurd h (by omega))
        refine sp_ite (fun _ => put _) (fun _ => sp_ite (fun h7 => sp_ite (fun h2 => sp_ite (fun h0 => ?_) (fun _ => put _)) (fun _ => put _)) (fun _ => put _))
        have := hso h7 h2; omega
      | succ m' ih' =>
        intro j x7 hj
        have hjlt : j < l[o].f1.length := by omega
        have hx := hin _ (List.getElem_mem hjlt)
        refine sp_step (f := ?f3) (fun k => ?h3) ?r3
        case h3 => conv => lhs; rw [job_weights.l1, if_pos (by omega), if_pos (by omega), if_pos (by omega), rd_at hjlt, if_pos (by omega), if_pos (by omega), step_i hjlt hsm]
        exact ih' (j + 1) _ (by omega)
    refine sp_step (f := ?f4) (fun k => ?h4) ?r4
    case h4 => conv => lhs; rw [job_weights.l0, if_pos (by omega), if_pos (by omega), if_pos (by omega), hrd, if_pos (by omega), if_pos (by omega), hr38]
    exact inner l[o].f1.length 0 0 (by omega)
theorem weights_some (l : List S38) (hl : l.length ≤ 12) (hs : ∀ x ∈ l, SmallN x) (hsl : ∀ x ∈ l, SlideOk x) : Sp (fun r => r.length = l.length) (fun k => job_weights.f k l) := by
  unfold job_weights.f
  refine sp_ite (fun _ => sp_ite (fun _ => ?_) (fun h => absurd h (by omega))) (fun h => absurd h (by omega))
  refine sp_bind (P := fun o => o = jobOrder l) (sp_now (r := jobOrder l) rfl |> sp_congr (fun k => by rw [job_Order.f, if_pos (by omega)])) (fun o ho => ?_)
  subst ho
  have h := order_len l
  exact weights_l0 l (jobOrder l) hl (by omega) hs hsl (order_ok l) (jobOrder l).length 0 _ (by omega) (by simp)
theorem Check_some (l : List S38) (hl : l.length < 17592186044416) (hs : ∀ x ∈ l, SmallN x) : Sp (fun c => c = 0 → l.length ≤ (jobOrder l).length ∧ l.length ≤ 12) (fun k => job_Check.f k l) := by
  unfold job_Check.f
  refine sp_bind (shape_some l hl hs) (fun c hc => sp_ite (fun h0 => ?_) (fun h0 => sp_now (fun h => absurd h h0)))
  obtain ⟨h1, h2, h3⟩ := hc h0
  refine sp_bind (weights_some l h3 hs h1) (fun t _ => ?_)
  refine sp_bind (P := Any) (sp_now (r := t.any fun x => decide (x > 64)) trivial) (fun b _ => sp_ite (fun _ => sp_now (fun h => by cases h)) (fun _ => ?_))
  exact sp_bind (P := Any) (sp_now (r := l.any fun x => x.f0 == 8) trivial) (fun b _ => sp_ite (fun _ => sp_now (fun _ => ⟨h2, h3⟩)) (fun _ => sp_now (fun h => by cases h)))
end Go.Proofs.Ytpbmfdbfimcpjaa.X
