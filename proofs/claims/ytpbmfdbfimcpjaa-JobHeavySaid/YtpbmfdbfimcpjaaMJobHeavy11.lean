/- Proofs towards the law JobHeavy, joined into one text. No conditions beyond those typed. -/
import Derived.Test.YtpbmfdbfimcpjaaMJobHeavy5
import Derived.Test.YtpbmfdbfimcpjaaMJobHeavy10
import Derived.Test.YtpbmfdbfimcpjaaMJobHeavy9
import Derived.Test.YtpbmfdbfimcpjaaMJobHeavy8
namespace Go.Proofs.Ytpbmfdbfimcpjaa.X
open Go.RowKit Go.Proofs.YtpbmfdbfimcpjaaW.PrintWords Go.Proofs.YtpbmfdbfimcpjaaW.PrintLast Go.Proofs.YtpbmfdbfimcpjaaW.PrintMore
attribute [local go_sem] max2_int min2_int max_two min_two max_three min_three max_four min_four   -- for this text's walks alone
set_option linter.unusedVariables false
set_option linter.unusedSimpArgs false
def job_Check.f (k : Nat) (l0_0 : List (S38)) : Option (Int) := (job_shape.f k l0_0).bind fun t150 => (if t150 = 0 then ((job_weights.f k l0_0).bind fun t151 => ((slices_ContainsFunc_int_int__job_Check_1.f t151 ()).bind fun t154 => (if t154 = true then (some 88) else ((api_Node__job_Check_2.f l0_0 ()).bind fun t155 => (if t155 = true then (some 0) else (some 80)))))) else (some t150))
theorem job_Check.mono : ∀ a0 k, LeO (job_Check.f k a0) (job_Check.f (k + 1) a0) := by
 intro a0 k
 unfold job_Check.f
 repeat' first
   | (with_reducible exact job_shape.mono _ _)
   | (with_reducible exact job_weights.mono _ _)
   | (with_reducible exact LeO.refl _)
   | (with_reducible exact LeO.none _)
   | (with_reducible refine LeO.ite ?_ ?_)
   | (with_reducible refine LeO.bind ?_ (fun _ => ?_))
   | exact job_shape.mono _ _
   | exact job_weights.mono _ _
   | exact LeO.none _
   | refine LeO.ite ?_ ?_
   | refine LeO.bind ?_ (fun _ => ?_)
set_option maxHeartbeats 8000000 in
set_option maxRecDepth 100000 in
theorem job_Check.calls (k : Nat) (A0_0 : Option Addr) (c0_0 : Nat) (l0_0 : List (S38)) (r : Int) (w : World) (hr0_0 : Kd.C k38 w A0_0 l0_0.length l0_0) (hc0_0 : l0_0.length ≤ c0_0) (h : job_Check.f k l0_0 = some r) :
  Calls Try.prog 8 #[.agg #[.slice A0_0 l0_0.length c0_0]] w fun e w' => e = .returned (.int .i64 r) ∧ Below w.heap.size w w' := by
 have hu24 := Try.underlying24
 have HR0_0 := Aside0.mk hr0_0
 have HC0_0 := Aside0.mk hc0_0
 clear hr0_0 hc0_0
 have HB := Aside0.mk (Below.refl w.heap.size w)
 have H : ((job_shape.f k l0_0).bind fun t150 => (if t150 = 0 then ((job_weights.f k l0_0).bind fun t151 => ((slices_ContainsFunc_int_int__job_Check_1.f t151 ()).bind fun t154 => (if t154 = true then (some 88) else ((api_Node__job_Check_2.f l0_0 ()).bind fun t155 => (if t155 = true then (some 0) else (some 80)))))) else (some t150))) = some r := h
 clear h
 replace H := Option.bind_eq_some_iff.mp H
 obtain ⟨t150, A20, H⟩ := H
 replace H : (if t150 = 0 then ((job_weights.f k l0_0).bind fun t151 => ((slices_ContainsFunc_int_int__job_Check_1.f t151 ()).bind fun t154 => (if t154 = true then (some 88) else ((api_Node__job_Check_2.f l0_0 ()).bind fun t155 => (if t155 = true then (some 0) else (some 80)))))) else (some t150)) = some r := H
 have A2 := Aside0.mk A20
 clear A20
 by_cases c3 : t150 = 0
 ·rw [if_pos c3] at H
  have c3b0 : (t150 == 0) = true := beq_iff_eq.mpr c3
  have c3b1 : (t150 != 0) = false := bne_eq_false_iff_eq.mpr c3
  clear c3
  replace H := Option.bind_eq_some_iff.mp H
  obtain ⟨t151, A40, H⟩ := H
  replace H : ((slices_ContainsFunc_int_int__job_Check_1.f t151 ()).bind fun t154 => (if t154 = true then (some 88) else ((api_Node__job_Check_2.f l0_0 ()).bind fun t155 => (if t155 = true then (some 0) else (some 80))))) = some r := H
  have A4 := Aside0.mk A40
  clear A40
  replace H := Option.bind_eq_some_iff.mp H
  obtain ⟨t154, A50, H⟩ := H
  replace H : (if t154 = true then (some 88) else ((api_Node__job_Check_2.f l0_0 ()).bind fun t155 => (if t155 = true then (some 0) else (some 80)))) = some r := H
  have A5 := Aside0.mk A50
  clear A50
  by_cases c6 : t154 = true
  ·subst c6
   have H1 : (some 88) = some r := by rw [if_pos rfl] at H; exact H
   clear H
   have H := H1
   clear H1
   obtain rfl := Option.some.inj H
   go_enter Try.func8, Try.ntmps8
   go_wp2_with (first | ((with_reducible refine gate_dst (N := 1) rfl ?_); refine box_event ?hg (N := 1) ?hd (cs := #[.slice A0_0 l0_0.length c0_0]) (t := 24) ?hr ?_; (case hd => rfl); (case hg => rfl); (case hr => first | (go_simp; done) | (go_simp; rfl)); intro gb149 hg w7 hbox hb; have n0_ := Aside0.mk (below_step (by repeat (first | (with_reducible first | exact HB.out | apply below_alloc | apply pw_below_drewN | apply below_drew1) | exact HB.out)) hb); have n1_ := Aside0.mk (hbox); have n2_ := Aside0.mk ((by rw [hg]; exact (below_size (by repeat (first | (with_reducible first | exact HB.out | apply below_alloc | apply pw_below_drewN | apply below_drew1) | exact HB.out))) : w.heap.size ≤ gb149)); have n3_ := Aside0.mk ((by rw [hg]; exact (below_size (by repeat (first | (with_reducible first | exact HB.out | apply below_alloc | apply pw_below_drewN | apply below_drew1) | exact HB.out))) : w.heap.size ≤ gb149)); clear HB; have HB := n0_; have BK149 := n1_; have GW149 := n2_; have GE149 := n3_; clear n0_ n1_ n2_ n3_; clear hb hbox hg; have hcz8_0 : w7.cell? ⟨gb149, 0, none⟩ = some (.slice A0_0 l0_0.length c0_0) := (blk_cell BK149.out 0).trans rfl; have hfz8_0 := blk_frozen BK149.out 0) | ((with_reducible refine gate_callee (f := 18) rfl ?_); refine goesL_ (some 5) rfl rfl Try.func18 (by kernel_rfl) rfl #[.agg #[.slice A0_0 l0_0.length c0_0]] rfl (by (try simp only [List.map_toArray, List.map_cons, List.map_nil]); first | done | rfl | (simp only [List.length_drop, List.length_take]; rfl)) ?_; (with_reducible refine (job_shape.calls k _ _ l0_0 t150 _ ?side1 ?side2 A2.out).mono ?_); (case side1 => repeat (first | exact (Kd.C_below HR0_0.out HB.out) | (with_reducible refine Kd.C_alloc ?_ _) | (with_reducible refine Kd.C_drewN ?_ _) | (with_reducible refine Kd.C_drew ?_))); (case side2 => exact HC0_0.out); rintro e w9 ⟨rfl, hb⟩; refine ⟨_, rfl, ?_⟩; have n0_ := Aside0.mk (blk_below (g := gb149) (o := .cells #[.slice A0_0 l0_0.length c0_0] 24 (0, 0)) (by (with_reducible repeat (first | refine blk_drewN ?_ _ | refine blk_drew ?_ | refine blk_alloc ?_ _)); exact BK149.out) hb); have n1_ := Aside0.mk (below_step (by repeat (first | (with_reducible first | exact HB.out | apply below_alloc | apply pw_below_drewN | apply below_drew1 | refine below_set ?_ GE149.out) | exact HB.out)) hb); clear BK149; clear HB; have BK149 := n0_; have HB := n1_; clear n0_ n1_; (try clear hb); (try clear hb2); (try clear hk); (try clear hi); have hcz10_0 : w9.cell? ⟨gb149, 0, none⟩ = some (.slice A0_0 l0_0.length c0_0) := (blk_cell BK149.out 0).trans rfl; have hfz10_0 := blk_frozen BK149.out 0) | ((with_reducible refine gate_callee (f := 20) rfl ?_); refine goesL_ (some 10) rfl rfl Try.func20 (by kernel_rfl) rfl #[.agg #[.slice A0_0 l0_0.length c0_0]] rfl (by (try simp only [List.map_toArray, List.map_cons, List.map_nil]); first | done | rfl | (simp only [List.length_drop, List.length_take]; rfl)) ?_; (with_reducible refine (job_weights.calls k _ _ l0_0 t151 _ ?side1 ?side2 A4.out).mono ?_); (case side1 => repeat (first | exact (Kd.C_below HR0_0.out HB.out) | (with_reducible refine Kd.C_alloc ?_ _) | (with_reducible refine Kd.C_drewN ?_ _) | (with_reducible refine Kd.C_drew ?_))); (case side2 => exact HC0_0.out); rintro e w11 ⟨v152, rfl, ho0, hb⟩; refine ⟨_, rfl, ?_⟩; have n0_ := Aside0.mk (Kd.R_lower ho0 (below_size (by repeat (first | (with_reducible first | exact HB.out | apply below_alloc | apply pw_below_drewN | apply below_drew1 | refine below_set ?_ GE149.out) | exact HB.out)))); have n1_ := Aside0.mk (blk_below (g := gb149) (o := .cells #[.slice A0_0 l0_0.length c0_0] 24 (0, 0)) (by (with_reducible repeat (first | refine blk_drewN ?_ _ | refine blk_drew ?_ | refine blk_alloc ?_ _)); exact BK149.out) hb); have n2_ := Aside0.mk (below_step (by repeat (first | (with_reducible first | exact HB.out | apply below_alloc | apply pw_below_drewN | apply below_drew1 | refine below_set ?_ GE149.out) | exact HB.out)) hb); clear BK149; clear HB; have HO153 := n0_; have BK149 := n1_; have HB := n2_; clear n0_ n1_ n2_; (try clear hb); (try clear hb2); (try clear hk); (try clear hi); (try clear ho0); obtain ⟨Ao12, co12, eo12⟩ := Kd.R_slice HO153.out; subst eo12) | ((with_reducible refine gate_callee (f := 19) rfl ?_); refine goesL_ (some 11) rfl rfl Try.func19 (by kernel_rfl) rfl #[.slice Ao12 t151.length co12, .func (.func 21) #[] #[]] rfl (by (try simp only [List.map_toArray, List.map_cons, List.map_nil]); first | done | rfl | (simp only [List.length_drop, List.length_take]; rfl)) ?_; (with_reducible refine (slices_ContainsFunc_int_int__job_Check_1.calls _ _ t151 () true _ ?side1 ?side2 A5.out).mono ?_); (case side1 => repeat (first | exact (Kd.R_reads' HO153.out).2.2 | (with_reducible refine Kd.C_alloc ?_ _) | (with_reducible refine Kd.C_drewN ?_ _) | (with_reducible refine Kd.C_drew ?_))); (case side2 => exact (Kd.R_reads' HO153.out).2.1); rintro e w13 ⟨rfl, hb⟩; refine ⟨_, rfl, ?_⟩; have n0_ := Aside0.mk (Kd.R_below (by (with_reducible repeat (first | apply Kd.R_alloc | apply Kd.R_drewN | apply Kd.R_drew)); exact HO153.out) hb); have n1_ := Aside0.mk (blk_below (g := gb149) (o := .cells #[.slice A0_0 l0_0.length c0_0] 24 (0, 0)) (by (with_reducible repeat (first | refine blk_drewN ?_ _ | refine blk_drew ?_ | refine blk_alloc ?_ _)); exact BK149.out) hb); have n2_ := Aside0.mk (below_step (by repeat (first | (with_reducible first | exact HB.out | apply below_alloc | apply pw_below_drewN | apply below_drew1 | refine below_set ?_ GE149.out) | exact HB.out)) hb); clear HO153; clear BK149; clear HB; have HO153 := n0_; have BK149 := n1_; have HB := n2_; clear n0_ n1_ n2_; (try clear hb); (try clear hb2); (try clear hk); (try clear hi)))
   go_ret
   exact ⟨by first | rfl | (simp [errW_none, errW_some] <;> rfl) | (simp [*, errW_none, errW_some] <;> rfl), by repeat (first | (with_reducible first | exact HB.out | apply below_alloc | apply pw_below_drewN | apply below_drew1 | refine below_set ?_ GE149.out) | exact HB.out)⟩
  ·replace c6 := Bool.eq_false_iff.mpr c6
   subst c6
   have H1 : ((api_Node__job_Check_2.f l0_0 ()).bind fun t155 => (if t155 = true then (some 0) else (some 80))) = some r := by rw [if_neg (show ¬ (false = true) by decide)] at H; exact H
   clear H
   have H := H1
   clear H1
   replace H := Option.bind_eq_some_iff.mp H
   obtain ⟨t155, A140, H⟩ := H
   replace H : (if t155 = true then (some 0) else (some 80)) = some r := H
   have A14 := Aside0.mk A140
   clear A140
   by_cases c15 : t155 = true
   ·subst c15
    have H1 : (some 0) = some r := by rw [if_pos rfl] at H; exact H
    clear H
    have H := H1
    clear H1
    obtain rfl := Option.some.inj H
    go_enter Try.func8, Try.ntmps8
    go_wp2_with (first | ((with_reducible refine gate_dst (N := 1) rfl ?_); refine box_event ?hg (N := 1) ?hd (cs := #[.slice A0_0 l0_0.length c0_0]) (t := 24) ?hr ?_; (case hd => rfl); (case hg => rfl); (case hr => first | (go_simp; done) | (go_simp; rfl)); intro gb149 hg w16 hbox hb; have n0_ := Aside0.mk (below_step (by repeat (first | (with_reducible first | exact HB.out | apply below_alloc | apply pw_below_drewN | apply below_drew1) | exact HB.out)) hb); have n1_ := Aside0.mk (hbox); have n2_ := Aside0.mk ((by rw [hg]; exact (below_size (by repeat (first | (with_reducible first | exact HB.out | apply below_alloc | apply pw_below_drewN | apply below_drew1) | exact HB.out))) : w.heap.size ≤ gb149)); have n3_ := Aside0.mk ((by rw [hg]; exact (below_size (by repeat (first | (with_reducible first | exact HB.out | apply below_alloc | apply pw_below_drewN | apply below_drew1) | exact HB.out))) : w.heap.size ≤ gb149)); clear HB; have HB := n0_; have BK149 := n1_; have GW149 := n2_; have GE149 := n3_; clear n0_ n1_ n2_ n3_; clear hb hbox hg; have hcz17_0 : w16.cell? ⟨gb149, 0, none⟩ = some (.slice A0_0 l0_0.length c0_0) := (blk_cell BK149.out 0).trans rfl; have hfz17_0 := blk_frozen BK149.out 0) | ((with_reducible refine gate_callee (f := 18) rfl ?_); refine goesL_ (some 5) rfl rfl Try.func18 (by kernel_rfl) rfl #[.agg #[.slice A0_0 l0_0.length c0_0]] rfl (by (try simp only [List.map_toArray, List.map_cons, List.map_nil]); first | done | rfl | (simp only [List.length_drop, List.length_take]; rfl)) ?_; (with_reducible refine (job_shape.calls k _ _ l0_0 t150 _ ?side1 ?side2 A2.out).mono ?_); (case side1 => repeat (first | exact (Kd.C_below HR0_0.out HB.out) | (with_reducible refine Kd.C_alloc ?_ _) | (with_reducible refine Kd.C_drewN ?_ _) | (with_reducible refine Kd.C_drew ?_))); (case side2 => exact HC0_0.out); rintro e w18 ⟨rfl, hb⟩; refine ⟨_, rfl, ?_⟩; have n0_ := Aside0.mk (blk_below (g := gb149) (o := .cells #[.slice A0_0 l0_0.length c0_0] 24 (0, 0)) (by (with_reducible repeat (first | refine blk_drewN ?_ _ | refine blk_drew ?_ | refine blk_alloc ?_ _)); exact BK149.out) hb); have n1_ := Aside0.mk (below_step (by repeat (first | (with_reducible first | exact HB.out | apply below_alloc | apply pw_below_drewN | apply below_drew1 | refine below_set ?_ GE149.out) | exact HB.out)) hb); clear BK149; clear HB; have BK149 := n0_; have HB := n1_; clear n0_ n1_; (try clear hb); (try clear hb2); (try clear hk); (try clear hi); have hcz19_0 : w18.cell? ⟨gb149, 0, none⟩ = some (.slice A0_0 l0_0.length c0_0) := (blk_cell BK149.out 0).trans rfl; have hfz19_0 := blk_frozen BK149.out 0) | ((with_reducible refine gate_callee (f := 20) rfl ?_); refine goesL_ (some 10) rfl rfl Try.func20 (by kernel_rfl) rfl #[.agg #[.slice A0_0 l0_0.length c0_0]] rfl (by (try simp only [List.map_toArray, List.map_cons, List.map_nil]); first | done | rfl | (simp only [List.length_drop, List.length_take]; rfl)) ?_; (with_reducible refine (job_weights.calls k _ _ l0_0 t151 _ ?side1 ?side2 A4.out).mono ?_); (case side1 => repeat (first | exact (Kd.C_below HR0_0.out HB.out) | (with_reducible refine Kd.C_alloc ?_ _) | (with_reducible refine Kd.C_drewN ?_ _) | (with_reducible refine Kd.C_drew ?_))); (case side2 => exact HC0_0.out); rintro e w20 ⟨v152, rfl, ho0, hb⟩; refine ⟨_, rfl, ?_⟩; have n0_ := Aside0.mk (Kd.R_lower ho0 (below_size (by repeat (first | (with_reducible first | exact HB.out | apply below_alloc | apply pw_below_drewN | apply below_drew1 | refine below_set ?_ GE149.out) | exact HB.out)))); have n1_ := Aside0.mk (blk_below (g := gb149) (o := .cells #[.slice A0_0 l0_0.length c0_0] 24 (0, 0)) (by (with_reducible repeat (first | refine blk_drewN ?_ _ | refine blk_drew ?_ | refine blk_alloc ?_ _)); exact BK149.out) hb); have n2_ := Aside0.mk (below_step (by repeat (first | (with_reducible first | exact HB.out | apply below_alloc | apply pw_below_drewN | apply below_drew1 | refine below_set ?_ GE149.out) | exact HB.out)) hb); clear BK149; clear HB; have HO153 := n0_; have BK149 := n1_; have HB := n2_; clear n0_ n1_ n2_; (try clear hb); (try clear hb2); (try clear hk); (try clear hi); (try clear ho0); obtain ⟨Ao21, co21, eo21⟩ := Kd.R_slice HO153.out; subst eo21) | ((with_reducible refine gate_callee (f := 19) rfl ?_); refine goesL_ (some 11) rfl rfl Try.func19 (by kernel_rfl) rfl #[.slice Ao21 t151.length co21, .func (.func 21) #[] #[]] rfl (by (try simp only [List.map_toArray, List.map_cons, List.map_nil]); first | done | rfl | (simp only [List.length_drop, List.length_take]; rfl)) ?_; (with_reducible refine (slices_ContainsFunc_int_int__job_Check_1.calls _ _ t151 () false _ ?side1 ?side2 A5.out).mono ?_); (case side1 => repeat (first | exact (Kd.R_reads' HO153.out).2.2 | (with_reducible refine Kd.C_alloc ?_ _) | (with_reducible refine Kd.C_drewN ?_ _) | (with_reducible refine Kd.C_drew ?_))); (case side2 => exact (Kd.R_reads' HO153.out).2.1); rintro e w22 ⟨rfl, hb⟩; refine ⟨_, rfl, ?_⟩; have n0_ := Aside0.mk (Kd.R_below (by (with_reducible repeat (first | apply Kd.R_alloc | apply Kd.R_drewN | apply Kd.R_drew)); exact HO153.out) hb); have n1_ := Aside0.mk (blk_below (g := gb149) (o := .cells #[.slice A0_0 l0_0.length c0_0] 24 (0, 0)) (by (with_reducible repeat (first | refine blk_drewN ?_ _ | refine blk_drew ?_ | refine blk_alloc ?_ _)); exact BK149.out) hb); have n2_ := Aside0.mk (below_step (by repeat (first | (with_reducible first | exact HB.out | apply below_alloc | apply pw_below_drewN | apply below_drew1 | refine below_set ?_ GE149.out) | exact HB.out)) hb); clear HO153; clear BK149; clear HB; have HO153 := n0_; have BK149 := n1_; have HB := n2_; clear n0_ n1_ n2_; (try clear hb); (try clear hb2); (try clear hk); (try clear hi); have hcz23_0 : w22.cell? ⟨gb149, 0, none⟩ = some (.slice A0_0 l0_0.length c0_0) := (blk_cell BK149.out 0).trans rfl; have hfz23_0 := blk_frozen BK149.out 0) | ((with_reducible refine gate_callee (f := 22) rfl ?_); refine goesL_ (some 14) rfl rfl Try.func22 (by kernel_rfl) rfl #[.slice A0_0 l0_0.length c0_0, .func (.func 23) #[] #[]] rfl (by (try simp only [List.map_toArray, List.map_cons, List.map_nil]); first | done | rfl | (simp only [List.length_drop, List.length_take]; rfl)) ?_; (with_reducible refine (api_Node__job_Check_2.calls _ _ l0_0 () true _ ?side1 ?side2 A14.out).mono ?_); (case side1 => repeat (first | exact (Kd.C_below HR0_0.out HB.out) | (with_reducible refine Kd.C_alloc ?_ _) | (with_reducible refine Kd.C_drewN ?_ _) | (with_reducible refine Kd.C_drew ?_))); (case side2 => exact HC0_0.out); rintro e w24 ⟨rfl, hb⟩; refine ⟨_, rfl, ?_⟩; have n0_ := Aside0.mk (Kd.R_below (by (with_reducible repeat (first | apply Kd.R_alloc | apply Kd.R_drewN | apply Kd.R_drew)); exact HO153.out) hb); have n1_ := Aside0.mk (blk_below (g := gb149) (o := .cells #[.slice A0_0 l0_0.length c0_0] 24 (0, 0)) (by (with_reducible repeat (first | refine blk_drewN ?_ _ | refine blk_drew ?_ | refine blk_alloc ?_ _)); exact BK149.out) hb); have n2_ := Aside0.mk (below_step (by repeat (first | (with_reducible first | exact HB.out | apply below_alloc | apply pw_below_drewN | apply below_drew1 | refine below_set ?_ GE149.out) | exact HB.out)) hb); clear HO153; clear BK149; clear HB; have HO153 := n0_; have BK149 := n1_; have HB := n2_; clear n0_ n1_ n2_; (try clear hb); (try clear hb2); (try clear hk); (try clear hi)))
    go_ret
    exact ⟨by first | rfl | (simp [errW_none, errW_some] <;> rfl) | (simp [*, errW_none, errW_some] <;> rfl), by repeat (first | (with_reducible first | exact HB.out | apply below_alloc | apply pw_below_drewN | apply below_drew1 | refine below_set ?_ GE149.out) | exact HB.out)⟩
   ·replace c15 := Bool.eq_false_iff.mpr c15
    subst c15
    have H1 : (some 80) = some r := by rw [if_neg (show ¬ (false = true) by decide)] at H; exact H
    clear H
    have H := H1
    clear H1
    obtain rfl := Option.some.inj H
    go_enter Try.func8, Try.ntmps8
    go_wp2_with (first | ((with_reducible refine gate_dst (N := 1) rfl ?_); refine box_event ?hg (N := 1) ?hd (cs := #[.slice A0_0 l0_0.length c0_0]) (t := 24) ?hr ?_; (case hd => rfl); (case hg => rfl); (case hr => first | (go_simp; done) | (go_simp; rfl)); intro gb149 hg w25 hbox hb; have n0_ := Aside0.mk (below_step (by repeat (first | (with_reducible first | exact HB.out | apply below_alloc | apply pw_below_drewN | apply below_drew1) | exact HB.out)) hb); have n1_ := Aside0.mk (hbox); have n2_ := Aside0.mk ((by rw [hg]; exact (below_size (by repeat (first | (with_reducible first | exact HB.out | apply below_alloc | apply pw_below_drewN | apply below_drew1) | exact HB.out))) : w.heap.size ≤ gb149)); have n3_ := Aside0.mk ((by rw [hg]; exact (below_size (by repeat (first | (with_reducible first | exact HB.out | apply below_alloc | apply pw_below_drewN | apply below_drew1) | exact HB.out))) : w.heap.size ≤ gb149)); clear HB; have HB := n0_; have BK149 := n1_; have GW149 := n2_; have GE149 := n3_; clear n0_ n1_ n2_ n3_; clear hb hbox hg; have hcz26_0 : w25.cell? ⟨gb149, 0, none⟩ = some (.slice A0_0 l0_0.length c0_0) := (blk_cell BK149.out 0).trans rfl; have hfz26_0 := blk_frozen BK149.out 0) | ((with_reducible refine gate_callee (f := 18) rfl ?_); refine goesL_ (some 5) rfl rfl Try.func18 (by kernel_rfl) rfl #[.agg #[.slice A0_0 l0_0.length c0_0]] rfl (by (try simp only [List.map_toArray, List.map_cons, List.map_nil]); first | done | rfl | (simp only [List.length_drop, List.length_take]; rfl)) ?_; (with_reducible refine (job_shape.calls k _ _ l0_0 t150 _ ?side1 ?side2 A2.out).mono ?_); (case side1 => repeat (first | exact (Kd.C_below HR0_0.out HB.out) | (with_reducible refine Kd.C_alloc ?_ _) | (with_reducible refine Kd.C_drewN ?_ _) | (with_reducible refine Kd.C_drew ?_))); (case side2 => exact HC0_0.out); rintro e w27 ⟨rfl, hb⟩; refine ⟨_, rfl, ?_⟩; have n0_ := Aside0.mk (blk_below (g := gb149) (o := .cells #[.slice A0_0 l0_0.length c0_0] 24 (0, 0)) (by (with_reducible repeat (first | refine blk_drewN ?_ _ | refine blk_drew ?_ | refine blk_alloc ?_ _)); exact BK149.out) hb); have n1_ := Aside0.mk (below_step (by repeat (first | (with_reducible first | exact HB.out | apply below_alloc | apply pw_below_drewN | apply below_drew1 | refine below_set ?_ GE149.out) | exact HB.out)) hb); clear BK149; clear HB; have BK149 := n0_; have HB := n1_; clear n0_ n1_; (try clear hb); (try clear hb2); (try clear hk); (try clear hi); have hcz28_0 : w27.cell? ⟨gb149, 0, none⟩ = some (.slice A0_0 l0_0.length c0_0) := (blk_cell BK149.out 0).trans rfl; have hfz28_0 := blk_frozen BK149.out 0) | ((with_reducible refine gate_callee (f := 20) rfl ?_); refine goesL_ (some 10) rfl rfl Try.func20 (by kernel_rfl) rfl #[.agg #[.slice A0_0 l0_0.length c0_0]] rfl (by (try simp only [List.map_toArray, List.map_cons, List.map_nil]); first | done | rfl | (simp only [List.length_drop, List.length_take]; rfl)) ?_; (with_reducible refine (job_weights.calls k _ _ l0_0 t151 _ ?side1 ?side2 A4.out).mono ?_); (case side1 => repeat (first | exact (Kd.C_below HR0_0.out HB.out) | (with_reducible refine Kd.C_alloc ?_ _) | (with_reducible refine Kd.C_drewN ?_ _) | (with_reducible refine Kd.C_drew ?_))); (case side2 => exact HC0_0.out); rintro e w29 ⟨v152, rfl, ho0, hb⟩; refine ⟨_, rfl, ?_⟩; have n0_ := Aside0.mk (Kd.R_lower ho0 (below_size (by repeat (first | (with_reducible first | exact HB.out | apply below_alloc | apply pw_below_drewN | apply below_drew1 | refine below_set ?_ GE149.out) | exact HB.out)))); have n1_ := Aside0.mk (blk_below (g := gb149) (o := .cells #[.slice A0_0 l0_0.length c0_0] 24 (0, 0)) (by (with_reducible repeat (first | refine blk_drewN ?_ _ | refine blk_drew ?_ | refine blk_alloc ?_ _)); exact BK149.out) hb); have n2_ := Aside0.mk (below_step (by repeat (first | (with_reducible first | exact HB.out | apply below_alloc | apply pw_below_drewN | apply below_drew1 | refine below_set ?_ GE149.out) | exact HB.out)) hb); clear BK149; clear HB; have HO153 := n0_; have BK149 := n1_; have HB := n2_; clear n0_ n1_ n2_; (try clear hb); (try clear hb2); (try clear hk); (try clear hi); (try clear ho0); obtain ⟨Ao30, co30, eo30⟩ := Kd.R_slice HO153.out; subst eo30) | ((with_reducible refine gate_callee (f := 19) rfl ?_); refine goesL_ (some 11) rfl rfl Try.func19 (by kernel_rfl) rfl #[.slice Ao30 t151.length co30, .func (.func 21) #[] #[]] rfl (by (try simp only [List.map_toArray, List.map_cons, List.map_nil]); first | done | rfl | (simp only [List.length_drop, List.length_take]; rfl)) ?_; (with_reducible refine (slices_ContainsFunc_int_int__job_Check_1.calls _ _ t151 () false _ ?side1 ?side2 A5.out).mono ?_); (case side1 => repeat (first | exact (Kd.R_reads' HO153.out).2.2 | (with_reducible refine Kd.C_alloc ?_ _) | (with_reducible refine Kd.C_drewN ?_ _) | (with_reducible refine Kd.C_drew ?_))); (case side2 => exact (Kd.R_reads' HO153.out).2.1); rintro e w31 ⟨rfl, hb⟩; refine ⟨_, rfl, ?_⟩; have n0_ := Aside0.mk (Kd.R_below (by (with_reducible repeat (first | apply Kd.R_alloc | apply Kd.R_drewN | apply Kd.R_drew)); exact HO153.out) hb); have n1_ := Aside0.mk (blk_below (g := gb149) (o := .cells #[.slice A0_0 l0_0.length c0_0] 24 (0, 0)) (by (with_reducible repeat (first | refine blk_drewN ?_ _ | refine blk_drew ?_ | refine blk_alloc ?_ _)); exact BK149.out) hb); have n2_ := Aside0.mk (below_step (by repeat (first | (with_reducible first | exact HB.out | apply below_alloc | apply pw_below_drewN | apply below_drew1 | refine below_set ?_ GE149.out) | exact HB.out)) hb); clear HO153; clear BK149; clear HB; have HO153 := n0_; have BK149 := n1_; have HB := n2_; clear n0_ n1_ n2_; (try clear hb); (try clear hb2); (try clear hk); (try clear hi); have hcz32_0 : w31.cell? ⟨gb149, 0, none⟩ = some (.slice A0_0 l0_0.length c0_0) := (blk_cell BK149.out 0).trans rfl; have hfz32_0 := blk_frozen BK149.out 0) | ((with_reducible refine gate_callee (f := 22) rfl ?_); refine goesL_ (some 14) rfl rfl Try.func22 (by kernel_rfl) rfl #[.slice A0_0 l0_0.length c0_0, .func (.func 23) #[] #[]] rfl (by (try simp only [List.map_toArray, List.map_cons, List.map_nil]); first | done | rfl | (simp only [List.length_drop, List.length_take]; rfl)) ?_; (with_reducible refine (api_Node__job_Check_2.calls _ _ l0_0 () false _ ?side1 ?side2 A14.out).mono ?_); (case side1 => repeat (first | exact (Kd.C_below HR0_0.out HB.out) | (with_reducible refine Kd.C_alloc ?_ _) | (with_reducible refine Kd.C_drewN ?_ _) | (with_reducible refine Kd.C_drew ?_))); (case side2 => exact HC0_0.out); rintro e w33 ⟨rfl, hb⟩; refine ⟨_, rfl, ?_⟩; have n0_ := Aside0.mk (Kd.R_below (by (with_reducible repeat (first | apply Kd.R_alloc | apply Kd.R_drewN | apply Kd.R_drew)); exact HO153.out) hb); have n1_ := Aside0.mk (blk_below (g := gb149) (o := .cells #[.slice A0_0 l0_0.length c0_0] 24 (0, 0)) (by (with_reducible repeat (first | refine blk_drewN ?_ _ | refine blk_drew ?_ | refine blk_alloc ?_ _)); exact BK149.out) hb); have n2_ := Aside0.mk (below_step (by repeat (first | (with_reducible first | exact HB.out | apply below_alloc | apply pw_below_drewN | apply below_drew1 | refine below_set ?_ GE149.out) | exact HB.out)) hb); clear HO153; clear BK149; clear HB; have HO153 := n0_; have BK149 := n1_; have HB := n2_; clear n0_ n1_ n2_; (try clear hb); (try clear hb2); (try clear hk); (try clear hi)))
    go_ret
    exact ⟨by first | rfl | (simp [errW_none, errW_some] <;> rfl) | (simp [*, errW_none, errW_some] <;> rfl), by repeat (first | (with_reducible first | exact HB.out | apply below_alloc | apply pw_below_drewN | apply below_drew1 | refine below_set ?_ GE149.out) | exact HB.out)⟩
 ·rw [if_neg c3] at H
  have c3b0 : (t150 == 0) = false := beq_eq_false_iff_ne.mpr c3
  have c3b1 : (t150 != 0) = true := bne_iff_ne.mpr c3
  obtain rfl := Option.some.inj H
  go_enter Try.func8, Try.ntmps8
  go_wp2_with (first | ((with_reducible refine gate_dst (N := 1) rfl ?_); refine box_event ?hg (N := 1) ?hd (cs := #[.slice A0_0 l0_0.length c0_0]) (t := 24) ?hr ?_; (case hd => rfl); (case hg => rfl); (case hr => first | (go_simp; done) | (go_simp; rfl)); intro gb149 hg w34 hbox hb; have n0_ := Aside0.mk (below_step (by repeat (first | (with_reducible first | exact HB.out | apply below_alloc | apply pw_below_drewN | apply below_drew1) | exact HB.out)) hb); have n1_ := Aside0.mk (hbox); have n2_ := Aside0.mk ((by rw [hg]; exact (below_size (by repeat (first | (with_reducible first | exact HB.out | apply below_alloc | apply pw_below_drewN | apply below_drew1) | exact HB.out))) : w.heap.size ≤ gb149)); have n3_ := Aside0.mk ((by rw [hg]; exact (below_size (by repeat (first | (with_reducible first | exact HB.out | apply below_alloc | apply pw_below_drewN | apply below_drew1) | exact HB.out))) : w.heap.size ≤ gb149)); clear HB; have HB := n0_; have BK149 := n1_; have GW149 := n2_; have GE149 := n3_; clear n0_ n1_ n2_ n3_; clear hb hbox hg; have hcz35_0 : w34.cell? ⟨gb149, 0, none⟩ = some (.slice A0_0 l0_0.length c0_0) := (blk_cell BK149.out 0).trans rfl; have hfz35_0 := blk_frozen BK149.out 0) | ((with_reducible refine gate_callee (f := 18) rfl ?_); refine goesL_ (some 5) rfl rfl Try.func18 (by kernel_rfl) rfl #[.agg #[.slice A0_0 l0_0.length c0_0]] rfl (by (try simp only [List.map_toArray, List.map_cons, List.map_nil]); first | done | rfl | (simp only [List.length_drop, List.length_take]; rfl)) ?_; (with_reducible refine (job_shape.calls k _ _ l0_0 t150 _ ?side1 ?side2 A2.out).mono ?_); (case side1 => repeat (first | exact (Kd.C_below HR0_0.out HB.out) | (with_reducible refine Kd.C_alloc ?_ _) | (with_reducible refine Kd.C_drewN ?_ _) | (with_reducible refine Kd.C_drew ?_))); (case side2 => exact HC0_0.out); rintro e w36 ⟨rfl, hb⟩; refine ⟨_, rfl, ?_⟩; have n0_ := Aside0.mk (blk_below (g := gb149) (o := .cells #[.slice A0_0 l0_0.length c0_0] 24 (0, 0)) (by (with_reducible repeat (first | refine blk_drewN ?_ _ | refine blk_drew ?_ | refine blk_alloc ?_ _)); exact BK149.out) hb); have n1_ := Aside0.mk (below_step (by repeat (first | (with_reducible first | exact HB.out | apply below_alloc | apply pw_below_drewN | apply below_drew1 | refine below_set ?_ GE149.out) | exact HB.out)) hb); clear BK149; clear HB; have BK149 := n0_; have HB := n1_; clear n0_ n1_; (try clear hb); (try clear hb2); (try clear hk); (try clear hi)))
  go_ret
  exact ⟨by first | rfl | (simp [errW_none, errW_some] <;> rfl) | (simp [*, errW_none, errW_some] <;> rfl), by repeat (first | (with_reducible first | exact HB.out | apply below_alloc | apply pw_below_drewN | apply below_drew1 | refine below_set ?_ GE149.out) | exact HB.out)⟩
end Go.Proofs.Ytpbmfdbfimcpjaa.X
namespace Go.Proofs.Ytpbmfdbfimcpjaa.X
open Go.RowKit Go.Proofs.YtpbmfdbfimcpjaaW.PrintWords Go.Proofs.YtpbmfdbfimcpjaaW.PrintLast Go.Proofs.YtpbmfdbfimcpjaaW.PrintMore
attribute [local go_sem] max2_int min2_int max_two min_two max_three min_three max_four min_four   -- for this text's walks alone
set_option linter.unusedVariables false
set_option linter.unusedSimpArgs false
mutual
def job_Logs.l0 : Nat → List (List (List (S47))) → Int → Int → List (S38) → Option (Int)
 | 0, _, _, _, _ => none
 | k + 1, x16, x17, x18, x164000 => if x18 < x17 then (if 0 ≤ x18 then (if x18 < (x16.length : Int) then (if x18 < (x164000.length : Int) then (if ((rd_T38 x164000 x18).f0) = 1 then (job_Logs.j1 k (rd_L8 x16 x18) ((rd_T38 x164000 x18).f2) x16 x17 x18 x164000) else (job_Logs.j1 k (rd_L8 x16 x18) 0 x16 x17 x18 x164000)) else (none)) else (none)) else (none)) else (some 0)
def job_Logs.j1 : Nat → List (List (S47)) → Int → List (List (List (S47))) → Int → Int → List (S38) → Option (Int)
 | 0, _, _, _, _, _, _ => none
 | k + 1, x6, x7, x16, x17, x18, x164000 => if (x6.length : Int) = x7 then (job_Logs.l1 k x16 x17 x18 x6 (x6.length : Int) 0 x164000) else (some 89)
def job_Logs.l1 : Nat → List (List (List (S47))) → Int → Int → List (List (S47)) → Int → Int → List (S38) → Option (Int)
 | 0, _, _, _, _, _, _, _ => none
 | k + 1, x16, x17, x18, x40, x41, x42, x164000 => if x42 < x41 then (if 0 ≤ x42 then (if x42 < (x40.length : Int) then (if ((rd_L7 x40 x42).length : Int) > 4096 then (some 89) else ((api_Item__job_Logs_1.f (rd_L7 x40 x42) ()).bind fun t168 => (if t168 = true then (some 89) else (job_Logs.l1 k x16 x17 x18 x40 x41 (wrap64 (x42 + 1)) x164000)))) else (none)) else (none)) else (job_Logs.l0 k x16 x17 (wrap64 (x18 + 1)) x164000)
end
def job_Logs.f (k : Nat) (l0_0 : List (S38)) (l1 : List (List (List (S47)))) : Option (Int) := if (l1.length : Int) = (l0_0.length : Int) then (job_Logs.l0 k l1 (l1.length : Int) 0 l0_0) else (some 89)
theorem job_Logs.mono_l : ∀ k, (∀ y0 y1 y2 y3, LeO (job_Logs.l0 k y0 y1 y2 y3) (job_Logs.l0 (k + 1) y0 y1 y2 y3)) ∧ (∀ y0 y1 y2 y3 y4 y5, LeO (job_Logs.j1 k y0 y1 y2 y3 y4 y5) (job_Logs.j1 (k + 1) y0 y1 y2 y3 y4 y5)) ∧ (∀ y0 y1 y2 y3 y4 y5 y6, LeO (job_Logs.l1 k y0 y1 y2 y3 y4 y5 y6) (job_Logs.l1 (k + 1) y0 y1 y2 y3 y4 y5 y6))
 | 0 => ⟨fun _ _ _ _ r h => by simp [job_Logs.l0] at h, fun _ _ _ _ _ _ r h => by simp [job_Logs.j1] at h, fun _ _ _ _ _ _ _ r h => by simp [job_Logs.l1] at h⟩
 | k + 1 => by
  obtain ⟨ih0, ih1, ih2⟩ := job_Logs.mono_l k
  refine ⟨?_, ?_, ?_⟩
  ·intro y0 y1 y2 y3
   unfold job_Logs.l0
   repeat' first
   | (with_reducible exact ih0 _ _ _ _)
   | (with_reducible exact ih1 _ _ _ _ _ _)
   | (with_reducible exact ih2 _ _ _ _ _ _ _)
   | (with_reducible exact LeO.refl _)
   | (with_reducible exact LeO.none _)
   | (with_reducible refine LeO.ite ?_ ?_)
   | (with_reducible refine LeO.bind ?_ (fun _ => ?_))
   | exact ih0 _ _ _ _
   | exact ih1 _ _ _ _ _ _
   | exact ih2 _ _ _ _ _ _ _
   | exact LeO.none _
   | refine LeO.ite ?_ ?_
   | refine LeO.bind ?_ (fun _ => ?_)
  ·intro y0 y1 y2 y3 y4 y5
   unfold job_Logs.j1
   repeat' first
   | (with_reducible exact ih0 _ _ _ _)
   | (with_reducible exact ih1 _ _ _ _ _ _)
   | (with_reducible exact ih2 _ _ _ _ _ _ _)
   | (with_reducible exact LeO.refl _)
   | (with_reducible exact LeO.none _)
   | (with_reducible refine LeO.ite ?_ ?_)
   | (with_reducible refine LeO.bind ?_ (fun _ => ?_))
   | exact ih0 _ _ _ _
   | exact ih1 _ _ _ _ _ _
   | exact ih2 _ _ _ _ _ _ _
   | exact LeO.none _
   | refine LeO.ite ?_ ?_
   | refine LeO.bind ?_ (fun _ => ?_)
  ·intro y0 y1 y2 y3 y4 y5 y6
   unfold job_Logs.l1
   repeat' first
   | (with_reducible exact ih0 _ _ _ _)
   | (with_reducible exact ih1 _ _ _ _ _ _)
   | (with_reducible exact ih2 _ _ _ _ _ _ _)
   | (with_reducible exact LeO.refl _)
   | (with_reducible exact LeO.none _)
   | (with_reducible refine LeO.ite ?_ ?_)
   | (with_reducible refine LeO.bind ?_ (fun _ => ?_))
   | exact ih0 _ _ _ _
   | exact ih1 _ _ _ _ _ _
   | exact ih2 _ _ _ _ _ _ _
   | exact LeO.none _
   | refine LeO.ite ?_ ?_
   | refine LeO.bind ?_ (fun _ => ?_)
theorem job_Logs.mono : ∀ a0 a1 k, LeO (job_Logs.f k a0 a1) (job_Logs.f (k + 1) a0 a1) := by
 intro a0 a1 k
 obtain ⟨ih0, ih1, ih2⟩ := job_Logs.mono_l k
 unfold job_Logs.f
 repeat' first
   | (with_reducible exact ih0 _ _ _ _)
   | (with_reducible exact ih1 _ _ _ _ _ _)
   | (with_reducible exact ih2 _ _ _ _ _ _ _)
   | (with_reducible exact LeO.refl _)
   | (with_reducible exact LeO.none _)
   | (with_reducible refine LeO.ite ?_ ?_)
   | (with_reducible refine LeO.bind ?_ (fun _ => ?_))
   | exact ih0 _ _ _ _
   | exact ih1 _ _ _ _ _ _
   | exact ih2 _ _ _ _ _ _ _
   | exact LeO.none _
   | refine LeO.ite ?_ ?_
   | refine LeO.bind ?_ (fun _ => ?_)
set_option maxHeartbeats 8000000 in
set_option maxRecDepth 100000 in
theorem job_Logs.calls (k : Nat) (A0_0 : Option Addr) (c0_0 : Nat) (l0_0 : List (S38)) (A1 : Option Addr) (c1 : Nat) (l1 : List (List (List (S47)))) (r : Int) (w : World) (hr0_0 : Kd.C k38 w A0_0 l0_0.length l0_0) (hc0_0 : l0_0.length ≤ c0_0) (hr1 : Kd.C (Kd.slice 48 (Kd.slice 47 k47)) w A1 l1.length l1) (hc1 : l1.length ≤ c1) (h : job_Logs.f k l0_0 l1 = some r) :
  Calls Try.prog 14 #[.agg #[.slice A0_0 l0_0.length c0_0], .slice A1 l1.length c1] w fun e w' => e = .returned (.int .i64 r) ∧ Below w.heap.size w w' := by
 have hu24 := Try.underlying24
 have HR0_0 := Aside0.mk hr0_0
 have HC0_0 := Aside0.mk hc0_0
 clear hr0_0 hc0_0
 have HR1 := Aside0.mk hr1
 have HC1 := Aside0.mk hc1
 clear hr1 hc1
 have HB := Aside0.mk (Below.refl w.heap.size w)
 have H : (if (l1.length : Int) = (l0_0.length : Int) then (job_Logs.l0 k l1 (l1.length : Int) 0 l0_0) else (some 89)) = some r := h
 clear h
 by_cases c3 : (l1.length : Int) = (l0_0.length : Int)
 ·rw [if_pos c3] at H
  have c3b0 : ((l1.length : Int) == (l0_0.length : Int)) = true := beq_iff_eq.mpr c3
  have c3b1 : ((l1.length : Int) != (l0_0.length : Int)) = false := bne_eq_false_iff_eq.mpr c3
  have c3b2 : (l1.length == l0_0.length) = true := by first | simpa using c3 | (simp at c3 ⊢; omega)
  clear c3
  have H' := Aside0.mk H
  clear H
  go_enter Try.func14, Try.ntmps14
  go_wp2_with (first | ((with_reducible refine gate_dst (N := 2) rfl ?_); refine box_event ?hg (N := 2) ?hd (cs := #[.slice A0_0 l0_0.length c0_0]) (t := 24) ?hr ?_; (case hd => rfl); (case hg => rfl); (case hr => first | (go_simp; done) | (go_simp; rfl)); intro gb163 hg w4 hbox hb; have n0_ := Aside0.mk (below_step (by repeat (first | (with_reducible first | exact HB.out | apply below_alloc | apply pw_below_drewN | apply below_drew1) | exact HB.out)) hb); have n1_ := Aside0.mk (hbox); have n2_ := Aside0.mk ((by rw [hg]; exact (below_size (by repeat (first | (with_reducible first | exact HB.out | apply below_alloc | apply pw_below_drewN | apply below_drew1) | exact HB.out))) : w.heap.size ≤ gb163)); have n3_ := Aside0.mk ((by rw [hg]; exact (below_size (by repeat (first | (with_reducible first | exact HB.out | apply below_alloc | apply pw_below_drewN | apply below_drew1) | exact HB.out))) : w.heap.size ≤ gb163)); clear HB; have HB := n0_; have BK163 := n1_; have GW163 := n2_; have GE163 := n3_; clear n0_ n1_ n2_ n3_; clear hb hbox hg; have hcz5_0 : w4.cell? ⟨gb163, 0, none⟩ = some (.slice A0_0 l0_0.length c0_0) := (blk_cell BK163.out 0).trans rfl; have hfz5_0 := blk_frozen BK163.out 0))
  go_loopg [18] k (fun kq v18 w' => ∃ (x18_1 : Int), v18 = .int .i64 x18_1 ∧ Aside0 (job_Logs.l0 kq l1 (l1.length : Int) x18_1 l0_0 = some r) ∧ Aside0 (kq ≤ k) ∧ Aside0 (w'.heap[gb163]? = some (.cells #[(.slice A0_0 l0_0.length c0_0)] 24 (0, 0))) ∧ Aside0 (Below w.heap.size w w'))
  case atStart => exact ⟨(0), (by first | rfl | (simp; done) | (simp [*]; done)), H', ⟨Nat.le_refl _⟩, ⟨by (with_reducible repeat (first | refine blk_drewN ?_ _ | refine blk_drew ?_ | refine blk_alloc ?_ _)); exact BK163.out⟩, ⟨by repeat (first | (with_reducible first | exact HB.out | apply below_alloc | apply pw_below_drewN | apply below_drew1 | refine below_set ?_ GE163.out) | exact HB.out)⟩⟩
  case round =>
   clear H'
   try clear c1; try clear p2; try clear c3; try clear c3b0; try clear c3b1; try clear c3b2; try clear hcz5_0; try clear hfz5_0
   obtain ⟨x18_1, rfl, HA, HK1, BK163, HB⟩ := hrel
   cases gk with
   | zero => exact absurd HA.out (by simp [job_Logs.l0])
   | succ k1 =>
    have H := HA.out
    clear HA
    simp only [job_Logs.l0] at H
    by_cases c6 : x18_1 < (l1.length : Int)
    ·rw [if_pos c6] at H
     have c6b0 : decide (x18_1 < (l1.length : Int)) = true := decide_eq_true c6
     clear c6
     by_cases c7 : 0 ≤ x18_1
     ·rw [if_pos c7] at H
      have c7b0 : decide (0 ≤ x18_1) = true := decide_eq_true c7
      clear c7
      by_cases c8 : x18_1 < (l1.length : Int)
      ·rw [if_pos c8] at H
       have c8b0 : decide (x18_1 < (l1.length : Int)) = true := decide_eq_true c8
       clear c8
       by_cases c9 : x18_1 < (l0_0.length : Int)
       ·rw [if_pos c9] at H
        have c9b0 : decide (x18_1 < (l0_0.length : Int)) = true := decide_eq_true c9
        clear c9
        have HC10 := Aside0.mk H
        clear H
        have p164 : 0 ≤ (x18_1 : Int) := of_decide_eq_true (by first | (with_reducible assumption) | assumption)
        have q164 : x18_1 < (l1.length : Int) := of_decide_eq_true (by first | (with_reducible assumption) | assumption)
        obtain ⟨ad164, A164_0, c164_0, e164, hx164_0, hl164_0, hi164_0⟩ := at_L8 HR1.out x18_1 p164 q164
        cases e164
        replace hx164_0 := (HB.out.cell (World.block_lt_of_cell? w _ hx164_0)).trans hx164_0
        have HR164_0 := Aside0.mk hi164_0
        have HC164_0 := Aside0.mk hl164_0
        clear hi164_0 hl164_0
        replace p164 := eq_true p164
        replace q164 := eq_true q164
        have hcz11_0 : wr.cell? ⟨gb163, 0, none⟩ = some (.slice A0_0 l0_0.length c0_0) := (blk_cell BK163.out 0).trans rfl
        have hfz11_0 := blk_frozen BK163.out 0
        have p165 : 0 ≤ (x18_1 : Int) := of_decide_eq_true (by first | (with_reducible assumption) | assumption)
        have q165 : x18_1 < (l0_0.length : Int) := of_decide_eq_true (by first | (with_reducible assumption) | assumption)
        obtain ⟨ad165, A165_1, c165_1, A165_5, c165_5, e165, hx165_0, hx165_1, hx165_2, hx165_3, hx165_4, hx165_5, hx165_6, hx165_7, hx165_8, hx165_9, hl165_1, hi165_1, hl165_5, hi165_5⟩ := at_T38 HR0_0.out x18_1 p165 q165
        cases e165
        replace hx165_0 := (HB.out.cell (World.block_lt_of_cell? w _ hx165_0)).trans hx165_0
        replace hx165_1 := (HB.out.cell (World.block_lt_of_cell? w _ hx165_1)).trans hx165_1
        replace hx165_2 := (HB.out.cell (World.block_lt_of_cell? w _ hx165_2)).trans hx165_2
        replace hx165_3 := (HB.out.cell (World.block_lt_of_cell? w _ hx165_3)).trans hx165_3
        replace hx165_4 := (HB.out.cell (World.block_lt_of_cell? w _ hx165_4)).trans hx165_4
        replace hx165_5 := (HB.out.cell (World.block_lt_of_cell? w _ hx165_5)).trans hx165_5
        replace hx165_6 := (HB.out.cell (World.block_lt_of_cell? w _ hx165_6)).trans hx165_6
        replace hx165_7 := (HB.out.cell (World.block_lt_of_cell? w _ hx165_7)).trans hx165_7
        replace hx165_8 := (HB.out.cell (World.block_lt_of_cell? w _ hx165_8)).trans hx165_8
        replace hx165_9 := (HB.out.cell (World.block_lt_of_cell? w _ hx165_9)).trans hx165_9
        have HR165_1 := Aside0.mk hi165_1
        have HC165_1 := Aside0.mk hl165_1
        clear hi165_1 hl165_1
        have HR165_5 := Aside0.mk hi165_5
        have HC165_5 := Aside0.mk hl165_5
        clear hi165_5 hl165_5
        replace p165 := eq_true p165
        replace q165 := eq_true q165
        go_upto_if 29 with (fail)
        go_cut [7] (fun v7 wc => ∃ (kq : Nat) (x7_9 : Int), v7 = .int .i64 x7_9 ∧ Aside0 (job_Logs.j1 kq (rd_L8 l1 x18_1) x7_9 l1 (l1.length : Int) x18_1 l0_0 = some r) ∧ Aside0 (kq ≤ k1) ∧ Aside0 (wc.heap[gb163]? = some (.cells #[(.slice (some ad165) l0_0.length c0_0)] 24 (0, 0))) ∧ Aside0 (Below w.heap.size w wc))
        case first =>
         have H := HC10.out
         clear HC10
         by_cases c12 : ((rd_T38 l0_0 x18_1).f0) = 1
         ·rw [if_pos c12] at H
          have c12b0 : (((rd_T38 l0_0 x18_1).f0) == 1) = true := beq_iff_eq.mpr c12
          have c12b1 : (((rd_T38 l0_0 x18_1).f0) != 1) = false := bne_eq_false_iff_eq.mpr c12
          clear c12
          (first | rw [c12b0] | (simp only [i64_w, i32_w]; rw [c12b0]) | skip)
          have H' := Aside0.mk H
          clear H
          have hcz13_0 : wr.cell? ⟨gb163, 0, none⟩ = some (.slice (some ad165) l0_0.length c0_0) := (blk_cell BK163.out 0).trans rfl
          have hfz13_0 := blk_frozen BK163.out 0
          have p166 : 0 ≤ (x18_1 : Int) := of_decide_eq_true (by first | (with_reducible assumption) | assumption)
          have q166 : x18_1 < (l0_0.length : Int) := of_decide_eq_true (by first | (with_reducible assumption) | assumption)
          obtain ⟨ad166, A166_1, c166_1, A166_5, c166_5, e166, hx166_0, hx166_1, hx166_2, hx166_3, hx166_4, hx166_5, hx166_6, hx166_7, hx166_8, hx166_9, hl166_1, hi166_1, hl166_5, hi166_5⟩ := at_T38 HR0_0.out x18_1 p166 q166
          obtain rfl : ad165 = ad166 := (by injection e166)
          replace hx166_0 := (HB.out.cell (World.block_lt_of_cell? w _ hx166_0)).trans hx166_0
          replace hx166_1 := (HB.out.cell (World.block_lt_of_cell? w _ hx166_1)).trans hx166_1
          replace hx166_2 := (HB.out.cell (World.block_lt_of_cell? w _ hx166_2)).trans hx166_2
          replace hx166_3 := (HB.out.cell (World.block_lt_of_cell? w _ hx166_3)).trans hx166_3
          replace hx166_4 := (HB.out.cell (World.block_lt_of_cell? w _ hx166_4)).trans hx166_4
          replace hx166_5 := (HB.out.cell (World.block_lt_of_cell? w _ hx166_5)).trans hx166_5
          replace hx166_6 := (HB.out.cell (World.block_lt_of_cell? w _ hx166_6)).trans hx166_6
          replace hx166_7 := (HB.out.cell (World.block_lt_of_cell? w _ hx166_7)).trans hx166_7
          replace hx166_8 := (HB.out.cell (World.block_lt_of_cell? w _ hx166_8)).trans hx166_8
          replace hx166_9 := (HB.out.cell (World.block_lt_of_cell? w _ hx166_9)).trans hx166_9
          have HR166_1 := Aside0.mk hi166_1
          have HC166_1 := Aside0.mk hl166_1
          clear hi166_1 hl166_1
          have HR166_5 := Aside0.mk hi166_5
          have HC166_5 := Aside0.mk hl166_5
          clear hi166_5 hl166_5
          replace p166 := eq_true p166
          replace q166 := eq_true q166
          go_wp2
          go_meet
          case rel => exact ⟨_, ((rd_T38 l0_0 x18_1).f2), (by first | rfl | (simp; done) | (simp [*]; done)), H', ⟨by have := HK1.out; first | omega | exact Nat.le_refl _⟩, ⟨by (with_reducible repeat (first | refine blk_drewN ?_ _ | refine blk_drew ?_ | refine blk_alloc ?_ _)); exact BK163.out⟩, ⟨by repeat (first | (with_reducible first | exact HB.out | apply below_alloc | apply pw_below_drewN | apply below_drew1 | refine below_set ?_ GE163.out) | exact HB.out)⟩⟩
         ·rw [if_neg c12] at H
          have c12b0 : (((rd_T38 l0_0 x18_1).f0) == 1) = false := beq_eq_false_iff_ne.mpr c12
          have c12b1 : (((rd_T38 l0_0 x18_1).f0) != 1) = true := bne_iff_ne.mpr c12
          (first | rw [c12b0] | (simp only [i64_w, i32_w]; rw [c12b0]) | skip)
          have H' := Aside0.mk H
          clear H
          go_wp2
          go_meet
          case rel => exact ⟨_, (0), (by first | rfl | (simp; done) | (simp [*]; done)), H', ⟨by have := HK1.out; first | omega | exact Nat.le_refl _⟩, ⟨by (with_reducible repeat (first | refine blk_drewN ?_ _ | refine blk_drew ?_ | refine blk_alloc ?_ _)); exact BK163.out⟩, ⟨by repeat (first | (with_reducible first | exact HB.out | apply below_alloc | apply pw_below_drewN | apply below_drew1 | refine below_set ?_ GE163.out) | exact HB.out)⟩⟩
        case rest =>
         clear HC10
         try clear c1; try clear p1; try clear q1; try clear hx1; try clear p2; try clear c3; try clear c3b0; try clear c3b1; try clear c3b2; try clear c6; try clear c6b0; try clear c7; try clear c7b0; try clear c8; try clear c8b0; try clear c9; try clear c9b0; try clear c12; try clear c12b0; try clear c12b1; try clear hcz11_0; try clear hcz13_0; try clear hcz5_0; try clear hfz11_0; try clear hfz13_0; try clear hfz5_0; try clear hx164_0; try clear hx165_0; try clear hx165_1; try clear hx165_2; try clear hx165_3; try clear hx165_4; try clear hx165_5; try clear hx165_6; try clear hx165_7; try clear hx165_8; try clear hx165_9; try clear hx166_0; try clear hx166_1; try clear hx166_2; try clear hx166_3; try clear hx166_4; try clear hx166_5; try clear hx166_6; try clear hx166_7; try clear hx166_8; try clear hx166_9; try clear p164; try clear p165; try clear p166; try clear p2; try clear q164; try clear q165; try clear q166
         obtain ⟨kq, x7_9, rfl, HA, HJ9, BK163, HB⟩ := hcut
         cases kq with
         | zero => exact absurd HA.out (by simp [job_Logs.j1])
         | succ kj9 =>
          have H := HA.out
          clear HA
          simp only [job_Logs.j1] at H
          by_cases c14 : ((rd_L8 l1 x18_1).length : Int) = x7_9
          ·rw [if_pos c14] at H
           have c14b0 : (((rd_L8 l1 x18_1).length : Int) == x7_9) = true := beq_iff_eq.mpr c14
           have c14b1 : (((rd_L8 l1 x18_1).length : Int) != x7_9) = false := bne_eq_false_iff_eq.mpr c14
           clear c14
           have H' := Aside0.mk H
           clear H
           go_wp2
           go_loopg [42] kj9 (fun kq v42 w' => ∃ (x42_3 : Int), v42 = .int .i64 x42_3 ∧ Aside0 (job_Logs.l1 kq l1 (l1.length : Int) x18_1 (rd_L8 l1 x18_1) ((rd_L8 l1 x18_1).length : Int) x42_3 l0_0 = some r) ∧ Aside0 (kq ≤ kj9) ∧ Aside0 (w'.heap[gb163]? = some (.cells #[(.slice (some ad165) l0_0.length c0_0)] 24 (0, 0))) ∧ Aside0 (Below w.heap.size w w'))
           case atStart => exact ⟨(0), (by first | rfl | (simp; done) | (simp [*]; done)), H', ⟨Nat.le_refl _⟩, ⟨by (with_reducible repeat (first | refine blk_drewN ?_ _ | refine blk_drew ?_ | refine blk_alloc ?_ _)); exact BK163.out⟩, ⟨by repeat (first | (with_reducible first | exact HB.out | apply below_alloc | apply pw_below_drewN | apply below_drew1 | refine below_set ?_ GE163.out) | exact HB.out)⟩⟩
           case round =>
            clear H'
            try clear c1; try clear p1; try clear q1; try clear hx1; try clear p2; try clear c3; try clear c3b0; try clear c3b1; try clear c3b2; try clear c6; try clear c6b0; try clear c7; try clear c7b0; try clear c8; try clear c8b0; try clear c9; try clear c9b0; try clear c12; try clear c12b0; try clear c12b1; try clear c14; try clear c14b0; try clear c14b1; try clear hcz11_0; try clear hcz13_0; try clear hcz5_0; try clear hfz11_0; try clear hfz13_0; try clear hfz5_0; try clear hx164_0; try clear hx165_0; try clear hx165_1; try clear hx165_2; try clear hx165_3; try clear hx165_4; try clear hx165_5; try clear hx165_6; try clear hx165_7; try clear hx165_8; try clear hx165_9; try clear hx166_0; try clear hx166_1; try clear hx166_2; try clear hx166_3; try clear hx166_4; try clear hx166_5; try clear hx166_6; try clear hx166_7; try clear hx166_8; try clear hx166_9; try clear p1; try clear p164; try clear p165; try clear p166; try clear p2; try clear q1; try clear q164; try clear q165; try clear q166
            obtain ⟨x42_3, rfl, HA, HK3, BK163, HB⟩ := hrel
            cases gk with
            | zero => exact absurd HA.out (by simp [job_Logs.l1])
            | succ k3 =>
             have H := HA.out
             clear HA
             simp only [job_Logs.l1] at H
             by_cases c15 : x42_3 < ((rd_L8 l1 x18_1).length : Int)
             ·rw [if_pos c15] at H
              have c15b0 : decide (x42_3 < ((rd_L8 l1 x18_1).length : Int)) = true := decide_eq_true c15
              clear c15
              by_cases c16 : 0 ≤ x42_3
              ·rw [if_pos c16] at H
               have c16b0 : decide (0 ≤ x42_3) = true := decide_eq_true c16
               clear c16
               by_cases c17 : x42_3 < ((rd_L8 l1 x18_1).length : Int)
               ·rw [if_pos c17] at H
                have c17b0 : decide (x42_3 < ((rd_L8 l1 x18_1).length : Int)) = true := decide_eq_true c17
                clear c17
                by_cases c18 : ((rd_L7 (rd_L8 l1 x18_1) x42_3).length : Int) > 4096
                ·rw [if_pos c18] at H
                 have c18b0 : decide (4096 < ((rd_L7 (rd_L8 l1 x18_1) x42_3).length : Int)) = true := decide_eq_true c18
                 have c18b1 : decide (4096 < (rd_L7 (rd_L8 l1 x18_1) x42_3).length) = true := decide_eq_true (by omega)
                 clear c18
                 obtain rfl := Option.some.inj H
                 have p167 : 0 ≤ (x42_3 : Int) := of_decide_eq_true (by first | (with_reducible assumption) | assumption)
                 have q167 : x42_3 < ((rd_L8 l1 x18_1).length : Int) := of_decide_eq_true (by first | (with_reducible assumption) | assumption)
                 obtain ⟨ad167, A167_0, c167_0, e167, hx167_0, hl167_0, hi167_0⟩ := at_L7 HR164_0.out x42_3 p167 q167
                 cases e167
                 replace hx167_0 := (HB.out.cell (World.block_lt_of_cell? w _ hx167_0)).trans hx167_0
                 have HR167_0 := Aside0.mk hi167_0
                 have HC167_0 := Aside0.mk hl167_0
                 clear hi167_0 hl167_0
                 replace p167 := eq_true p167
                 replace q167 := eq_true q167
                 go_wp2
                 go_ret
                 exact ⟨by first | rfl | (simp [errW_none, errW_some] <;> rfl) | (simp [*, errW_none, errW_some] <;> rfl), by repeat (first | (with_reducible first | exact HB.out | apply below_alloc | apply pw_below_drewN | apply below_drew1 | refine below_set ?_ GE163.out) | exact HB.out)⟩
                ·rw [if_neg c18] at H
                 have c18b0 : decide (4096 < ((rd_L7 (rd_L8 l1 x18_1) x42_3).length : Int)) = false := decide_eq_false c18
                 have c18b1 : decide (4096 < (rd_L7 (rd_L8 l1 x18_1) x42_3).length) = false := decide_eq_false (by omega)
                 clear c18
                 replace H := Option.bind_eq_some_iff.mp H
                 obtain ⟨t168, A190, H⟩ := H
                 replace H : (if t168 = true then (some 89) else (job_Logs.l1 k3 l1 (l1.length : Int) x18_1 (rd_L8 l1 x18_1) ((rd_L8 l1 x18_1).length : Int) (wrap64 (x42_3 + 1)) l0_0)) = some r := H
                 have A19 := Aside0.mk A190
                 clear A190
                 by_cases c20 : t168 = true
                 ·subst c20
                  have H1 : (some 89) = some r := by rw [if_pos rfl] at H; exact H
                  clear H
                  have H := H1
                  clear H1
                  obtain rfl := Option.some.inj H
                  have p167 : 0 ≤ (x42_3 : Int) := of_decide_eq_true (by first | (with_reducible assumption) | assumption)
                  have q167 : x42_3 < ((rd_L8 l1 x18_1).length : Int) := of_decide_eq_true (by first | (with_reducible assumption) | assumption)
                  obtain ⟨ad167, A167_0, c167_0, e167, hx167_0, hl167_0, hi167_0⟩ := at_L7 HR164_0.out x42_3 p167 q167
                  cases e167
                  replace hx167_0 := (HB.out.cell (World.block_lt_of_cell? w _ hx167_0)).trans hx167_0
                  have HR167_0 := Aside0.mk hi167_0
                  have HC167_0 := Aside0.mk hl167_0
                  clear hi167_0 hl167_0
                  replace p167 := eq_true p167
                  replace q167 := eq_true q167
                  go_wp2_with (first | (go_at_call 27; (with_reducible refine (api_Item__job_Logs_1.calls _ _ (rd_L7 (rd_L8 l1 x18_1) x42_3) () true _ ?side1 ?side2 A19.out).mono ?_); (case side1 => repeat (first | exact (Kd.C_below HR167_0.out HB.out) | (with_reducible refine Kd.C_alloc ?_ _) | (with_reducible refine Kd.C_drewN ?_ _) | (with_reducible refine Kd.C_drew ?_))); (case side2 => exact HC167_0.out); rintro e w21 ⟨rfl, hb⟩; have n0_ := Aside0.mk (blk_below (g := gb163) (o := .cells #[.slice (some ad165) l0_0.length c0_0] 24 (0, 0)) (by (with_reducible repeat (first | refine blk_drewN ?_ _ | refine blk_drew ?_ | refine blk_alloc ?_ _)); exact BK163.out) hb); have n1_ := Aside0.mk (below_step (by repeat (first | (with_reducible first | exact HB.out | apply below_alloc | apply pw_below_drewN | apply below_drew1 | refine below_set ?_ GE163.out) | exact HB.out)) hb); clear BK163; clear HB; have BK163 := n0_; have HB := n1_; clear n0_ n1_; (try clear hb); (try clear hb2); (try clear hk); (try clear hi)))
                  go_ret
                  exact ⟨by first | rfl | (simp [errW_none, errW_some] <;> rfl) | (simp [*, errW_none, errW_some] <;> rfl), by repeat (first | (with_reducible first | exact HB.out | apply below_alloc | apply pw_below_drewN | apply below_drew1 | refine below_set ?_ GE163.out) | exact HB.out)⟩
                 ·replace c20 := Bool.eq_false_iff.mpr c20
                  subst c20
                  have H1 : (job_Logs.l1 k3 l1 (l1.length : Int) x18_1 (rd_L8 l1 x18_1) ((rd_L8 l1 x18_1).length : Int) (wrap64 (x42_3 + 1)) l0_0) = some r := by rw [if_neg (show ¬ (false = true) by decide)] at H; exact H
                  clear H
                  have H := H1
                  clear H1
                  have H' := Aside0.mk H
                  clear H
                  have p167 : 0 ≤ (x42_3 : Int) := of_decide_eq_true (by first | (with_reducible assumption) | assumption)
                  have q167 : x42_3 < ((rd_L8 l1 x18_1).length : Int) := of_decide_eq_true (by first | (with_reducible assumption) | assumption)
                  obtain ⟨ad167, A167_0, c167_0, e167, hx167_0, hl167_0, hi167_0⟩ := at_L7 HR164_0.out x42_3 p167 q167
                  cases e167
                  replace hx167_0 := (HB.out.cell (World.block_lt_of_cell? w _ hx167_0)).trans hx167_0
                  have HR167_0 := Aside0.mk hi167_0
                  have HC167_0 := Aside0.mk hl167_0
                  clear hi167_0 hl167_0
                  replace p167 := eq_true p167
                  replace q167 := eq_true q167
                  go_wp2_with (first | (go_at_call 27; (with_reducible refine (api_Item__job_Logs_1.calls _ _ (rd_L7 (rd_L8 l1 x18_1) x42_3) () false _ ?side1 ?side2 A19.out).mono ?_); (case side1 => repeat (first | exact (Kd.C_below HR167_0.out HB.out) | (with_reducible refine Kd.C_alloc ?_ _) | (with_reducible refine Kd.C_drewN ?_ _) | (with_reducible refine Kd.C_drew ?_))); (case side2 => exact HC167_0.out); rintro e w22 ⟨rfl, hb⟩; have n0_ := Aside0.mk (blk_below (g := gb163) (o := .cells #[.slice (some ad165) l0_0.length c0_0] 24 (0, 0)) (by (with_reducible repeat (first | refine blk_drewN ?_ _ | refine blk_drew ?_ | refine blk_alloc ?_ _)); exact BK163.out) hb); have n1_ := Aside0.mk (below_step (by repeat (first | (with_reducible first | exact HB.out | apply below_alloc | apply pw_below_drewN | apply below_drew1 | refine below_set ?_ GE163.out) | exact HB.out)) hb); clear BK163; clear HB; have BK163 := n0_; have HB := n1_; clear n0_ n1_; (try clear hb); (try clear hb2); (try clear hk); (try clear hi)))
                  go_roundg k3
                  case measure => have := HK1.out; have := HJ9.out; have := HK3.out; omega
                  case rel => exact ⟨(wrap64 (x42_3 + 1)), (by first | rfl | (simp; done) | (simp [*]; done)), H', ⟨by have := HK1.out; have := HJ9.out; have := HK3.out; omega⟩, ⟨by (with_reducible repeat (first | refine blk_drewN ?_ _ | refine blk_drew ?_ | refine blk_alloc ?_ _)); exact BK163.out⟩, ⟨by repeat (first | (with_reducible first | exact HB.out | apply below_alloc | apply pw_below_drewN | apply below_drew1 | refine below_set ?_ GE163.out) | exact HB.out)⟩⟩
               ·rw [if_neg c17] at H
                exact absurd H (by simp)
              ·rw [if_neg c16] at H
               exact absurd H (by simp)
             ·rw [if_neg c15] at H
              have c15b0 : decide (x42_3 < ((rd_L8 l1 x18_1).length : Int)) = false := decide_eq_false c15
              clear c15
              have H' := Aside0.mk H
              clear H
              go_wp2
              go_roundg k3
              case measure => have := HK1.out; have := HJ9.out; have := HK3.out; omega
              case rel => exact ⟨(wrap64 (x18_1 + 1)), (by first | rfl | (simp; done) | (simp [*]; done)), H', ⟨by have := HK1.out; have := HJ9.out; have := HK3.out; omega⟩, ⟨by (with_reducible repeat (first | refine blk_drewN ?_ _ | refine blk_drew ?_ | refine blk_alloc ?_ _)); exact BK163.out⟩, ⟨by repeat (first | (with_reducible first | exact HB.out | apply below_alloc | apply pw_below_drewN | apply below_drew1 | refine below_set ?_ GE163.out) | exact HB.out)⟩⟩
          ·rw [if_neg c14] at H
           have c14b0 : (((rd_L8 l1 x18_1).length : Int) == x7_9) = false := beq_eq_false_iff_ne.mpr c14
           have c14b1 : (((rd_L8 l1 x18_1).length : Int) != x7_9) = true := bne_iff_ne.mpr c14
           obtain rfl := Option.some.inj H
           go_wp2
           go_ret
           exact ⟨by first | rfl | (simp [errW_none, errW_some] <;> rfl) | (simp [*, errW_none, errW_some] <;> rfl), by repeat (first | (with_reducible first | exact HB.out | apply below_alloc | apply pw_below_drewN | apply below_drew1 | refine below_set ?_ GE163.out) | exact HB.out)⟩
       ·rw [if_neg c9] at H
        exact absurd H (by simp)
      ·rw [if_neg c8] at H
       exact absurd H (by simp)
     ·rw [if_neg c7] at H
      exact absurd H (by simp)
    ·rw [if_neg c6] at H
     have c6b0 : decide (x18_1 < (l1.length : Int)) = false := decide_eq_false c6
     clear c6
     obtain rfl := Option.some.inj H
     go_wp2
     go_ret
     exact ⟨by first | rfl | (simp [errW_none, errW_some] <;> rfl) | (simp [*, errW_none, errW_some] <;> rfl), by repeat (first | (with_reducible first | exact HB.out | apply below_alloc | apply pw_below_drewN | apply below_drew1 | refine below_set ?_ GE163.out) | exact HB.out)⟩
 ·rw [if_neg c3] at H
  have c3b0 : ((l1.length : Int) == (l0_0.length : Int)) = false := beq_eq_false_iff_ne.mpr c3
  have c3b1 : ((l1.length : Int) != (l0_0.length : Int)) = true := bne_iff_ne.mpr c3
  have c3b2 : (l1.length == l0_0.length) = false := by first | simpa using c3 | (simp at c3 ⊢; omega)
  obtain rfl := Option.some.inj H
  go_enter Try.func14, Try.ntmps14
  go_wp2_with (first | ((with_reducible refine gate_dst (N := 2) rfl ?_); refine box_event ?hg (N := 2) ?hd (cs := #[.slice A0_0 l0_0.length c0_0]) (t := 24) ?hr ?_; (case hd => rfl); (case hg => rfl); (case hr => first | (go_simp; done) | (go_simp; rfl)); intro gb163 hg w23 hbox hb; have n0_ := Aside0.mk (below_step (by repeat (first | (with_reducible first | exact HB.out | apply below_alloc | apply pw_below_drewN | apply below_drew1) | exact HB.out)) hb); have n1_ := Aside0.mk (hbox); have n2_ := Aside0.mk ((by rw [hg]; exact (below_size (by repeat (first | (with_reducible first | exact HB.out | apply below_alloc | apply pw_below_drewN | apply below_drew1) | exact HB.out))) : w.heap.size ≤ gb163)); have n3_ := Aside0.mk ((by rw [hg]; exact (below_size (by repeat (first | (with_reducible first | exact HB.out | apply below_alloc | apply pw_below_drewN | apply below_drew1) | exact HB.out))) : w.heap.size ≤ gb163)); clear HB; have HB := n0_; have BK163 := n1_; have GW163 := n2_; have GE163 := n3_; clear n0_ n1_ n2_ n3_; clear hb hbox hg; have hcz24_0 : w23.cell? ⟨gb163, 0, none⟩ = some (.slice A0_0 l0_0.length c0_0) := (blk_cell BK163.out 0).trans rfl; have hfz24_0 := blk_frozen BK163.out 0))
  go_ret
  exact ⟨by first | rfl | (simp [errW_none, errW_some] <;> rfl) | (simp [*, errW_none, errW_some] <;> rfl), by repeat (first | (with_reducible first | exact HB.out | apply below_alloc | apply pw_below_drewN | apply below_drew1 | refine below_set ?_ GE163.out) | exact HB.out)⟩
end Go.Proofs.Ytpbmfdbfimcpjaa.X
namespace Go.Proofs.Ytpbmfdbfimcpjaa.X
open Go.RowKit Go.Proofs.YtpbmfdbfimcpjaaW.PrintWords Go.Proofs.YtpbmfdbfimcpjaaW.PrintLast Go.Proofs.YtpbmfdbfimcpjaaW.PrintMore
attribute [local go_sem] max2_int min2_int max_two min_two max_three min_three max_four min_four   -- for this text's walks alone
set_option linter.unusedVariables false
set_option linter.unusedSimpArgs false
mutual
def job_Whole.l0 : Nat → Unit → List (List (List (S47))) → Int → Int → Option (Bool)
 | 0, _, _, _, _ => none
 | k + 1, x3, x8, x9, x10 => if x10 < x9 then (if 0 ≤ x10 then (if x10 < (x8.length : Int) then (job_Whole.l1 k x3 x8 x9 x10 (rd_L8 x8 x10) ((rd_L8 x8 x10).length : Int) 0) else (none)) else (none)) else (some true)
def job_Whole.l1 : Nat → Unit → List (List (List (S47))) → Int → Int → List (List (S47)) → Int → Int → Option (Bool)
 | 0, _, _, _, _, _, _, _ => none
 | k + 1, x3, x8, x9, x10, x14, x15, x16 => if x16 < x15 then (if 0 ≤ x16 then (if x16 < (x14.length : Int) then ((api_Item__job_Whole_1.f (rd_L7 x14 x16) x3).bind fun t171 => (if t171 = true then (job_Whole.l1 k x3 x8 x9 x10 x14 x15 (wrap64 (x16 + 1))) else (some false))) else (none)) else (none)) else (job_Whole.l0 k x3 x8 x9 (wrap64 (x10 + 1)))
end
def job_Whole.f (k : Nat) (l0 : List (List (List (S47)))) : Option (Bool) := job_Whole.l0 k () l0 (l0.length : Int) 0
theorem job_Whole.mono_l : ∀ k, (∀ y0 y1 y2 y3, LeO (job_Whole.l0 k y0 y1 y2 y3) (job_Whole.l0 (k + 1) y0 y1 y2 y3)) ∧ (∀ y0 y1 y2 y3 y4 y5 y6, LeO (job_Whole.l1 k y0 y1 y2 y3 y4 y5 y6) (job_Whole.l1 (k + 1) y0 y1 y2 y3 y4 y5 y6))
 | 0 => ⟨fun _ _ _ _ r h => by simp [job_Whole.l0] at h, fun _ _ _ _ _ _ _ r h => by simp [job_Whole.l1] at h⟩
 | k + 1 => by
  obtain ⟨ih0, ih1⟩ := job_Whole.mono_l k
  refine ⟨?_, ?_⟩
  ·intro y0 y1 y2 y3
   unfold job_Whole.l0
   repeat' first
   | (with_reducible exact ih0 _ _ _ _)
   | (with_reducible exact ih1 _ _ _ _ _ _ _)
   | (with_reducible exact LeO.refl _)
   | (with_reducible exact LeO.none _)
   | (with_reducible refine LeO.ite ?_ ?_)
   | (with_reducible refine LeO.bind ?_ (fun _ => ?_))
   | exact ih0 _ _ _ _
   | exact ih1 _ _ _ _ _ _ _
   | exact LeO.none _
   | refine LeO.ite ?_ ?_
   | refine LeO.bind ?_ (fun _ => ?_)
  ·intro y0 y1 y2 y3 y4 y5 y6
   unfold job_Whole.l1
   repeat' first
   | (with_reducible exact ih0 _ _ _ _)
   | (with_reducible exact ih1 _ _ _ _ _ _ _)
   | (with_reducible exact LeO.refl _)
   | (with_reducible exact LeO.none _)
   | (with_reducible refine LeO.ite ?_ ?_)
   | (with_reducible refine LeO.bind ?_ (fun _ => ?_))
   | exact ih0 _ _ _ _
   | exact ih1 _ _ _ _ _ _ _
   | exact LeO.none _
   | refine LeO.ite ?_ ?_
   | refine LeO.bind ?_ (fun _ => ?_)
theorem job_Whole.mono : ∀ a0 k, LeO (job_Whole.f k a0) (job_Whole.f (k + 1) a0) := by
 intro a0 k
 obtain ⟨ih0, ih1⟩ := job_Whole.mono_l k
 unfold job_Whole.f
 repeat' first
   | (with_reducible exact ih0 _ _ _ _)
   | (with_reducible exact ih1 _ _ _ _ _ _ _)
   | (with_reducible exact LeO.refl _)
   | (with_reducible exact LeO.none _)
   | (with_reducible refine LeO.ite ?_ ?_)
   | (with_reducible refine LeO.bind ?_ (fun _ => ?_))
   | exact ih0 _ _ _ _
   | exact ih1 _ _ _ _ _ _ _
   | exact LeO.none _
   | refine LeO.ite ?_ ?_
   | refine LeO.bind ?_ (fun _ => ?_)
set_option maxHeartbeats 8000000 in
set_option maxRecDepth 100000 in
theorem job_Whole.calls (k : Nat) (A0 : Option Addr) (c0 : Nat) (l0 : List (List (List (S47)))) (r : Bool) (w : World) (hr0 : Kd.C (Kd.slice 48 (Kd.slice 47 k47)) w A0 l0.length l0) (hc0 : l0.length ≤ c0) (h : job_Whole.f k l0 = some r) :
  Calls Try.prog 15 #[.slice A0 l0.length c0] w fun e w' => e = .returned (.bool r) ∧ Below w.heap.size w w' := by
 have HR0 := Aside0.mk hr0
 have HC0 := Aside0.mk hc0
 clear hr0 hc0
 have HB := Aside0.mk (Below.refl w.heap.size w)
 have H : (job_Whole.l0 k () l0 (l0.length : Int) 0) = some r := h
 clear h
 have H' := Aside0.mk H
 clear H
 go_enter Try.func15, Try.ntmps15
 go_wp2
 go_loopg [10] k (fun kq v10 w' => ∃ (x10_1 : Int), v10 = .int .i64 x10_1 ∧ Aside0 (job_Whole.l0 kq () l0 (l0.length : Int) x10_1 = some r) ∧ Aside0 (kq ≤ k) ∧ Aside0 (Below w.heap.size w w'))
 case atStart => exact ⟨(0), (by first | rfl | (simp; done) | (simp [*]; done)), H', ⟨Nat.le_refl _⟩, ⟨by repeat (first | (with_reducible first | exact HB.out | apply below_alloc | apply pw_below_drewN | apply below_drew1) | exact HB.out)⟩⟩
 case round =>
  clear H'
  try clear c1
  obtain ⟨x10_1, rfl, HA, HK1, HB⟩ := hrel
  cases gk with
  | zero => exact absurd HA.out (by simp [job_Whole.l0])
  | succ k1 =>
   have H := HA.out
   clear HA
   simp only [job_Whole.l0] at H
   by_cases c2 : x10_1 < (l0.length : Int)
   ·rw [if_pos c2] at H
    have c2b0 : decide (x10_1 < (l0.length : Int)) = true := decide_eq_true c2
    clear c2
    by_cases c3 : 0 ≤ x10_1
    ·rw [if_pos c3] at H
     have c3b0 : decide (0 ≤ x10_1) = true := decide_eq_true c3
     clear c3
     by_cases c4 : x10_1 < (l0.length : Int)
     ·rw [if_pos c4] at H
      have c4b0 : decide (x10_1 < (l0.length : Int)) = true := decide_eq_true c4
      clear c4
      have H' := Aside0.mk H
      clear H
      have p169 : 0 ≤ (x10_1 : Int) := of_decide_eq_true (by first | (with_reducible assumption) | assumption)
      have q169 : x10_1 < (l0.length : Int) := of_decide_eq_true (by first | (with_reducible assumption) | assumption)
      obtain ⟨ad169, A169_0, c169_0, e169, hx169_0, hl169_0, hi169_0⟩ := at_L8 HR0.out x10_1 p169 q169
      cases e169
      replace hx169_0 := (HB.out.cell (World.block_lt_of_cell? w _ hx169_0)).trans hx169_0
      have HR169_0 := Aside0.mk hi169_0
      have HC169_0 := Aside0.mk hl169_0
      clear hi169_0 hl169_0
      replace p169 := eq_true p169
      replace q169 := eq_true q169
      go_wp2
      go_loopg [16] k1 (fun kq v16 w' => ∃ (x16_2 : Int), v16 = .int .i64 x16_2 ∧ Aside0 (job_Whole.l1 kq () l0 (l0.length : Int) x10_1 (rd_L8 l0 x10_1) ((rd_L8 l0 x10_1).length : Int) x16_2 = some r) ∧ Aside0 (kq ≤ k1) ∧ Aside0 (Below w.heap.size w w'))
      case atStart => exact ⟨(0), (by first | rfl | (simp; done) | (simp [*]; done)), H', ⟨Nat.le_refl _⟩, ⟨by repeat (first | (with_reducible first | exact HB.out | apply below_alloc | apply pw_below_drewN | apply below_drew1) | exact HB.out)⟩⟩
      case round =>
       clear H'
       try clear c1; try clear p1; try clear q1; try clear hx1; try clear c2; try clear c2b0; try clear p2; try clear c3; try clear c3b0; try clear c4; try clear c4b0; try clear hx169_0; try clear p169; try clear q169
       obtain ⟨x16_2, rfl, HA, HK2, HB⟩ := hrel
       cases gk with
       | zero => exact absurd HA.out (by simp [job_Whole.l1])
       | succ k2 =>
        have H := HA.out
        clear HA
        simp only [job_Whole.l1] at H
        by_cases c5 : x16_2 < ((rd_L8 l0 x10_1).length : Int)
        ·rw [if_pos c5] at H
         have c5b0 : decide (x16_2 < ((rd_L8 l0 x10_1).length : Int)) = true := decide_eq_true c5
         clear c5
         by_cases c6 : 0 ≤ x16_2
         ·rw [if_pos c6] at H
          have c6b0 : decide (0 ≤ x16_2) = true := decide_eq_true c6
          clear c6
          by_cases c7 : x16_2 < ((rd_L8 l0 x10_1).length : Int)
          ·rw [if_pos c7] at H
           have c7b0 : decide (x16_2 < ((rd_L8 l0 x10_1).length : Int)) = true := decide_eq_true c7
           clear c7
           replace H := Option.bind_eq_some_iff.mp H
           obtain ⟨t171, A80, H⟩ := H
           replace H : (if t171 = true then (job_Whole.l1 k2 () l0 (l0.length : Int) x10_1 (rd_L8 l0 x10_1) ((rd_L8 l0 x10_1).length : Int) (wrap64 (x16_2 + 1))) else (some false)) = some r := H
           have A8 := Aside0.mk A80
           clear A80
           by_cases c9 : t171 = true
           ·subst c9
            have H1 : (job_Whole.l1 k2 () l0 (l0.length : Int) x10_1 (rd_L8 l0 x10_1) ((rd_L8 l0 x10_1).length : Int) (wrap64 (x16_2 + 1))) = some r := by rw [if_pos rfl] at H; exact H
            clear H
            have H := H1
            clear H1
            have H' := Aside0.mk H
            clear H
            have p170 : 0 ≤ (x16_2 : Int) := of_decide_eq_true (by first | (with_reducible assumption) | assumption)
            have q170 : x16_2 < ((rd_L8 l0 x10_1).length : Int) := of_decide_eq_true (by first | (with_reducible assumption) | assumption)
            obtain ⟨ad170, A170_0, c170_0, e170, hx170_0, hl170_0, hi170_0⟩ := at_L7 HR169_0.out x16_2 p170 q170
            cases e170
            replace hx170_0 := (HB.out.cell (World.block_lt_of_cell? w _ hx170_0)).trans hx170_0
            have HR170_0 := Aside0.mk hi170_0
            have HC170_0 := Aside0.mk hl170_0
            clear hi170_0 hl170_0
            replace p170 := eq_true p170
            replace q170 := eq_true q170
            go_wp2_with (first | ((with_reducible refine gate_callee (f := 27) rfl ?_); refine goesL_ (some 22) rfl rfl Try.func27 (by kernel_rfl) rfl #[.slice A170_0 (rd_L7 (rd_L8 l0 x10_1) x16_2).length c170_0, .func (.func 30) #[] #[]] rfl (by (try simp only [List.map_toArray, List.map_cons, List.map_nil]); first | done | rfl | (simp only [List.length_drop, List.length_take]; rfl)) ?_; (with_reducible refine (api_Item__job_Whole_1.calls _ _ (rd_L7 (rd_L8 l0 x10_1) x16_2) () true _ ?side1 ?side2 A8.out).mono ?_); (case side1 => repeat (first | exact (Kd.C_below HR170_0.out HB.out) | (with_reducible refine Kd.C_alloc ?_ _) | (with_reducible refine Kd.C_drewN ?_ _) | (with_reducible refine Kd.C_drew ?_))); (case side2 => exact HC170_0.out); rintro e w10 ⟨rfl, hb⟩; refine ⟨_, rfl, ?_⟩; have n0_ := Aside0.mk (below_step (by repeat (first | (with_reducible first | exact HB.out | apply below_alloc | apply pw_below_drewN | apply below_drew1) | exact HB.out)) hb); clear HB; have HB := n0_; clear n0_; (try clear hb); (try clear hb2); (try clear hk); (try clear hi)))
            go_roundg k2
            case measure => have := HK1.out; have := HK2.out; omega
            case rel => exact ⟨(wrap64 (x16_2 + 1)), (by first | rfl | (simp; done) | (simp [*]; done)), H', ⟨by have := HK1.out; have := HK2.out; omega⟩, ⟨by repeat (first | (with_reducible first | exact HB.out | apply below_alloc | apply pw_below_drewN | apply below_drew1) | exact HB.out)⟩⟩
           ·replace c9 := Bool.eq_false_iff.mpr c9
            subst c9
            have H1 : (some false) = some r := by rw [if_neg (show ¬ (false = true) by decide)] at H; exact H
            clear H
            have H := H1
            clear H1
            obtain rfl := Option.some.inj H
            have p170 : 0 ≤ (x16_2 : Int) := of_decide_eq_true (by first | (with_reducible assumption) | assumption)
            have q170 : x16_2 < ((rd_L8 l0 x10_1).length : Int) := of_decide_eq_true (by first | (with_reducible assumption) | assumption)
            obtain ⟨ad170, A170_0, c170_0, e170, hx170_0, hl170_0, hi170_0⟩ := at_L7 HR169_0.out x16_2 p170 q170
            cases e170
            replace hx170_0 := (HB.out.cell (World.block_lt_of_cell? w _ hx170_0)).trans hx170_0
            have HR170_0 := Aside0.mk hi170_0
            have HC170_0 := Aside0.mk hl170_0
            clear hi170_0 hl170_0
            replace p170 := eq_true p170
            replace q170 := eq_true q170
            go_wp2_with (first | ((with_reducible refine gate_callee (f := 27) rfl ?_); refine goesL_ (some 22) rfl rfl Try.func27 (by kernel_rfl) rfl #[.slice A170_0 (rd_L7 (rd_L8 l0 x10_1) x16_2).length c170_0, .func (.func 30) #[] #[]] rfl (by (try simp only [List.map_toArray, List.map_cons, List.map_nil]); first | done | rfl | (simp only [List.length_drop, List.length_take]; rfl)) ?_; (with_reducible refine (api_Item__job_Whole_1.calls _ _ (rd_L7 (rd_L8 l0 x10_1) x16_2) () false _ ?side1 ?side2 A8.out).mono ?_); (case side1 => repeat (first | exact (Kd.C_below HR170_0.out HB.out) | (with_reducible refine Kd.C_alloc ?_ _) | (with_reducible refine Kd.C_drewN ?_ _) | (with_reducible refine Kd.C_drew ?_))); (case side2 => exact HC170_0.out); rintro e w11 ⟨rfl, hb⟩; refine ⟨_, rfl, ?_⟩; have n0_ := Aside0.mk (below_step (by repeat (first | (with_reducible first | exact HB.out | apply below_alloc | apply pw_below_drewN | apply below_drew1) | exact HB.out)) hb); clear HB; have HB := n0_; clear n0_; (try clear hb); (try clear hb2); (try clear hk); (try clear hi)))
            go_ret
            exact ⟨by first | rfl | (simp [errW_none, errW_some] <;> rfl) | (simp [*, errW_none, errW_some] <;> rfl), by repeat (first | (with_reducible first | exact HB.out | apply below_alloc | apply pw_below_drewN | apply below_drew1) | exact HB.out)⟩
          ·rw [if_neg c7] at H
           exact absurd H (by simp)
         ·rw [if_neg c6] at H
          exact absurd H (by simp)
        ·rw [if_neg c5] at H
         have c5b0 : decide (x16_2 < ((rd_L8 l0 x10_1).length : Int)) = false := decide_eq_false c5
         clear c5
         have H' := Aside0.mk H
         clear H
         go_wp2
         go_roundg k2
         case measure => have := HK1.out; have := HK2.out; omega
         case rel => exact ⟨(wrap64 (x10_1 + 1)), (by first | rfl | (simp; done) | (simp [*]; done)), H', ⟨by have := HK1.out; have := HK2.out; omega⟩, ⟨by repeat (first | (with_reducible first | exact HB.out | apply below_alloc | apply pw_below_drewN | apply below_drew1) | exact HB.out)⟩⟩
     ·rw [if_neg c4] at H
      exact absurd H (by simp)
    ·rw [if_neg c3] at H
     exact absurd H (by simp)
   ·rw [if_neg c2] at H
    have c2b0 : decide (x10_1 < (l0.length : Int)) = false := decide_eq_false c2
    clear c2
    obtain rfl := Option.some.inj H
    go_wp2
    go_ret
    exact ⟨by first | rfl | (simp [errW_none, errW_some] <;> rfl) | (simp [*, errW_none, errW_some] <;> rfl), by repeat (first | (with_reducible first | exact HB.out | apply below_alloc | apply pw_below_drewN | apply below_drew1) | exact HB.out)⟩
end Go.Proofs.Ytpbmfdbfimcpjaa.X
namespace Go.Proofs.Ytpbmfdbfimcpjaa.X
open Go.RowKit Go.Proofs.YtpbmfdbfimcpjaaW.PrintWords
set_option linter.unusedVariables false
set_option linter.unusedSimpArgs false
abbrev e0 : S34 := ⟨0, 0, []⟩
abbrev q0 : S36 := ⟨0, 0, 0⟩
abbrev winW (wp s d : Int) : Int := mn (wrap64 (wp * (wrap64 (Int.tdiv (wrap64 ((wrap64 (s + d)) - 1)) d)))) 65
inductive Nd (N : Nat) : Nat → Int → S38 → Int → Prop
  | src (wp : Int) : 1 < N → Nd N 0 wp ⟨1, [], 1, e0, 0, q0⟩ 1
  | uni (p c : Nat) (wp : Int) : p + 2 < N → 1 ≤ c → c ≤ 4 → Nd N (p + 1) wp ⟨5, List.replicate c (p : Int), 1, e0, 0, q0⟩ (mn (wrap64 (wp * (c : Int))) 65)
  | mid (p : Nat) (wp : Int) : p + 2 < N → Nd N (p + 1) wp ⟨6, [(p : Int)], 1, e0, 4, q0⟩ (mn wp 65)
  | win (p : Nat) (wp s d : Int) : p + 2 < N → 1 ≤ s → s ≤ 7 → 1 ≤ d → d ≤ 4 → Nd N (p + 1) wp ⟨7, [(p : Int)], 1, e0, 1, ⟨2, s, d⟩⟩ (winW wp s d)
  | snk (p : Nat) (wp : Int) : p + 2 = N → Nd N (p + 1) wp ⟨8, [(p : Int)], 1, e0, 0, q0⟩ wp
theorem nd_in {N i : Nat} {wp wc : Int} {x : S38} (h : Nd N i wp x wc) : ∀ y ∈ x.f1, ∃ p : Nat, y = (p : Int) ∧ i = p + 1 := by
  cases h with
  | src => intro y hy; simp at hy
  | uni p c => intro y hy; exact ⟨p, (List.mem_replicate.1 hy).2, rfl⟩
  | mid p => intro y hy; exact ⟨p, by simpa using hy, rfl⟩
  | win p => intro y hy; exact ⟨p, by simpa using hy, rfl⟩
  | snk p => intro y hy; exact ⟨p, by simpa using hy, rfl⟩
theorem nd_8 {N i : Nat} {wp wc : Int} {x : S38} (h : Nd N i wp x wc) (hi : i + 1 < N) : x.f0 ≠ 8 := by
  cases h with
  | src => decide
  | uni => show (5 : Int) ≠ 8; decide
  | mid => show (6 : Int) ≠ 8; decide
  | win => show (7 : Int) ≠ 8; decide
  | snk => omega
theorem nd_small {N i : Nat} {wp wc : Int} {x : S38} (h : Nd N i wp x wc) : SmallN x := by
  have e : SmallD 1 e0 := ⟨by decide, fun x h => by simp at h⟩
  cases h with
  | src => exact ⟨by decide, 1, e⟩
  | uni p c _ _ _ hc => exact ⟨by show (List.replicate c (p : Int)).length ≤ _; rw [List.length_replicate]; omega, 1, e⟩
  | mid => exact ⟨by simp, 1, e⟩
  | win => exact ⟨by simp, 1, e⟩
  | snk => exact ⟨by simp, 1, e⟩
theorem times_ok (s d : Int) (hs : 1 ≤ s) (hs' : s ≤ 7) (hd : 1 ≤ d) (hd' : d ≤ 4) : ∃ t : Int, wrap64 (Int.tdiv (wrap64 ((wrap64 (s + d)) - 1)) d) = t ∧ wrap64 ((wrap64 (Int.tdiv (wrap64 (s - 1)) d)) + 1) = t ∧ 1 ≤ t ∧ t ≤ 7 := by
  have h1 : s = 1 ∨ s = 2 ∨ s = 3 ∨ s = 4 ∨ s = 5 ∨ s = 6 ∨ s = 7 := by omega
  have h2 : d = 1 ∨ d = 2 ∨ d = 3 ∨ d = 4 := by omega
  rcases h1 with rfl | rfl | rfl | rfl | rfl | rfl | rfl <;> rcases h2 with rfl | rfl | rfl | rfl <;> exact ⟨_, rfl, by decide +kernel, by decide +kernel, by decide +kernel⟩
theorem wrap_small {x : Int} (h : -1000 ≤ x) (h' : x ≤ 1000) : wrap64 x = x := by unfold wrap64; omega
theorem mn_le {a : Int} (h : 1 ≤ a) : 1 ≤ mn a 65 ∧ mn a 65 ≤ 65 := by unfold mn; split <;> omega
theorem mul_le {wp t b : Int} (h1 : 1 ≤ wp) (h2 : wp ≤ 65) (h3 : 1 ≤ t) (h4 : t ≤ b) (hb : b ≤ 7) : 1 ≤ wp * t ∧ wp * t ≤ 455 := by
  have a := Int.mul_le_mul h1 h3 (by omega) (by omega)
  have b := Int.mul_le_mul h2 (show t ≤ 7 by omega) (by omega) (by omega)
  omega
theorem nd_le {N i : Nat} {wp wc : Int} {x : S38} (h : Nd N i wp x wc) (h1 : 1 ≤ wp) (h2 : wp ≤ 65) : 1 ≤ wc ∧ wc ≤ 65 := by
  cases h with
  | src => omega
  | uni p c _ _ hc hc' =>
    have := mul_le (t := (c : Int)) (b := 4) h1 h2 (by omega) (by omega) (by omega)
    exact mn_le (by rw [wrap_small (by omega) (by omega)]; omega)
  | mid => exact mn_le h1
  | win p _ s d _ hs hs' hd hd' =>
    obtain ⟨t, e1, _, ht, ht'⟩ := times_ok s d hs hs' hd hd'
    have := mul_le (t := t) (b := 7) h1 h2 ht ht' (by omega)
    unfold winW
    rw [e1]
    exact mn_le (by rw [wrap_small (by omega) (by omega)]; omega)
  | snk => exact ⟨h1, h2⟩
theorem nd_node (l : List S38) {N i : Nat} {wp wc : Int} {x : S38} (h : Nd N i wp x wc) (hb : ∀ y ∈ x.f1, badIn l y = false) : Ev (fun k => job_node.f k l x.f0 x.f1 x.f2 x.f3.f0 x.f3.f1 x.f3.f2 x.f4 x.f5.f0 x.f5.f1 x.f5.f2) 0 := by
  refine Ev.of (fun k => job_node.mono _ _ _ _ _ _ _ _ _ _ _ k) (k := 12) ?_
  cases h with
  | src => simp [job_node.f, job_node.j0, job_node.j1, job_node.j2, job_node.j3, job_inputs.f, lenOk, job_zero.f]
  | uni p c _ _ hc hc' =>
    have hp : badIn l (p : Int) = false := hb _ (by simp; omega)
    simp [job_node.f, job_node.j0, job_node.j1, job_node.j2, job_node.j3, job_inputs.f, lenOk, job_zero.f, hp, hc, hc']
    omega
  | mid p =>
    have hp : badIn l (p : Int) = false := hb _ (by simp)
    simp [job_node.f, job_node.j0, job_node.j1, job_node.j2, job_node.j3, job_inputs.f, lenOk, job_zero.f, hp]
  | win p _ s d _ hs hs' hd hd' =>
    have hp : badIn l (p : Int) = false := hb _ (by simp)
    have a1 : s ≥ 1 := hs
    have a2 : s ≤ 68719476736 := by omega
    have a3 : d ≥ 1 := hd
    have a4 : d ≤ 68719476736 := by omega
    simp [job_node.f, job_node.j0, job_node.j1, job_node.j2, job_node.j3, job_inputs.f, lenOk, job_zero.f, hp, job_win.f, job_win.j0, job_span.f, a1, a2, a3, a4]
  | snk p =>
    have hp : badIn l (p : Int) = false := hb _ (by simp)
    simp [job_node.f, job_node.j0, job_node.j1, job_node.j2, job_node.j3, job_inputs.f, lenOk, job_zero.f, hp]
theorem nd_node8 (l : List S38) {N i : Nat} {wp wc : Int} {x : S38} (h : Nd N i wp x wc) (hb : ∀ y ∈ x.f1, 0 ≤ y ∧ y < l.length ∧ (rd_T38 l y).f0 ≠ 8) : Ev (fun k => leatref8_node.f k l x.f0 x.f1 x.f2 x.f3.f0 x.f3.f1 x.f3.f2 x.f4 x.f5.f0 x.f5.f1 x.f5.f2) 0 := by
  refine Ev.of (fun k => leatref8_node.mono _ _ _ _ _ _ _ _ _ _ _ k) (k := 20) ?_
  have w1 : wrap64 1 = 1 := by decide +kernel
  have w2 : wrap64 2 = 2 := by decide +kernel
  have w3 : wrap64 3 = 3 := by decide +kernel
  have w4 : wrap64 4 = 4 := by decide +kernel
  cases h with
  | src => simp [leatref8_node.f, leatref8_node.j0, leatref8_node.j1, leatref8_node.l0, leatref8_node.j3, leatref8_node.j4, leatref8_node.j5, leatref8_node.j6, leatref7_Zero.f]
  | uni p c _ _ hc hc' =>
    obtain ⟨b1, b2, b3⟩ := hb (p : Int) (by simp; omega)
    have b2' : p < l.length := by omega
    have hcc : c = 1 ∨ c = 2 ∨ c = 3 ∨ c = 4 := by omega
    rcases hcc with rfl | rfl | rfl | rfl <;>
    simp [leatref8_node.f, leatref8_node.j0, leatref8_node.j1, leatref8_node.l0, leatref8_node.j3, leatref8_node.j4, leatref8_node.j5, leatref8_node.j6, leatref7_Zero.f, List.replicate, rd, b2', b3, w1, w2, w3, w4]
  | mid p =>
    obtain ⟨b1, b2, b3⟩ := hb (p : Int) (by simp)
    have b2' : p < l.length := by omega
    simp [leatref8_node.f, leatref8_node.j0, leatref8_node.j1, leatref8_node.l0, leatref8_node.j3, leatref8_node.j4, leatref8_node.j5, leatref8_node.j6, leatref7_Zero.f, rd, b2', b3, w1]
  | win p _ s d _ hs hs' hd hd' =>
    obtain ⟨b1, b2, b3⟩ := hb (p : Int) (by simp)
    have b2' : p < l.length := by omega
    have a1 : ¬ s < 1 := by omega
    have a2 : s ≤ 68719476736 := by omega
    have a3 : ¬ d < 1 := by omega
    have a4 : ¬ d > 68719476736 := by omega
    simp [leatref8_node.f, leatref8_node.j0, leatref8_node.j1, leatref8_node.l0, leatref8_node.j3, leatref8_node.j4, leatref8_node.j5, leatref8_node.j6, leatref7_Zero.f, rd, b2', b3, w1, a1, a2, a3, a4]
    try omega
  | snk p =>
    obtain ⟨b1, b2, b3⟩ := hb (p : Int) (by simp)
    have b2' : p < l.length := by omega
    simp [leatref8_node.f, leatref8_node.j0, leatref8_node.j1, leatref8_node.l0, leatref8_node.j3, leatref8_node.j4, leatref8_node.j5, leatref8_node.j6, leatref7_Zero.f, rd, b2', b3, w1]
end Go.Proofs.Ytpbmfdbfimcpjaa.X
namespace Go.Proofs.Ytpbmfdbfimcpjaa.X
open Go.RowKit Go.Proofs.YtpbmfdbfimcpjaaW.PrintWords
set_option linter.unusedVariables false
set_option linter.unusedSimpArgs false
structure Ch (l : List S38) (w : List Int) : Prop where
  len : l.length ≤ 11
  two : 2 ≤ l.length
  wl : w.length = l.length
  nd : ∀ i (h : i < l.length), Nd l.length i (w.getD (i - 1) 0) l[i] (w.getD i 0)
  wb : ∀ x ∈ w, 1 ≤ x ∧ x ≤ 65
theorem wrd {w : List Int} {i : Nat} (h : i < w.length) : w.getD i 0 = w[i] := by simp [h]
theorem Ch.wp {l : List S38} {w : List Int} (c : Ch l w) {i : Nat} (h : i < l.length) : 1 ≤ w.getD i 0 ∧ w.getD i 0 ≤ 65 := by
  have hw := c.wl
  rw [wrd (by omega)]; exact c.wb _ (List.getElem_mem _)
theorem Ch.small {l : List S38} {w : List Int} (c : Ch l w) : ∀ x ∈ l, SmallN x := by
  intro x hx
  obtain ⟨i, hi, rfl⟩ := List.getElem_of_mem hx
  exact nd_small (c.nd i hi)
theorem Ch.good_in {l : List S38} {w : List Int} (c : Ch l w) {i : Nat} (hi : i < l.length) : ∀ y ∈ l[i].f1, 0 ≤ y ∧ y < l.length ∧ (rd_T38 l y).f0 ≠ 8 := by
  intro y hy
  obtain ⟨p, rfl, rfl⟩ := nd_in (c.nd i hi) y hy
  have hp : p < l.length := by omega
  refine ⟨by omega, by omega, ?_⟩
  rw [rd38_at hp]
  exact nd_8 (c.nd p hp) (by omega)
def seqI (i m : Nat) : List Int := (List.range' i m).map (fun (x : Nat) => (x : Int))
theorem chain_go {l : List S38} {w : List Int} (c : Ch l w) : ∀ (m i f : Nat) (out : List Int), l.length = i + m → m < f → orderGo l f (List.replicate i true ++ List.replicate m false) out = out ++ seqI i m
  | 0, i, f + 1, out, h, _ => by
    have hn : nextN l (List.replicate i true ++ List.replicate 0 false) = none := next_none (fun j hj => by
      unfold readyN
      rw [List.getD_eq_getElem?_getD]
      simp [List.getElem?_replicate, show j < i by omega])
    rw [order_none hn]; simp [seqI]
  | m + 1, i, f + 1, out, h, hf => by
    have hi : i < l.length := by omega
    have hn : nextN l (List.replicate i true ++ List.replicate (m + 1) false) = some i := by
      refine next_some hi (fun j hj => ?_) ?_
      · unfold readyN
        rw [List.getD_eq_getElem?_getD, List.getElem?_append_left (by simpa using hj)]
        simp [List.getElem?_replicate, hj]
      · unfold readyN
        rw [List.getD_eq_getElem?_getD, List.getElem?_append_right (by simp)]
        rw [List.getD_eq_getElem?_getD (l := l), List.getElem?_eq_getElem hi]
        simp only [List.length_replicate, Nat.sub_self, Option.getD_some, Bool.and_eq_true, List.all_eq_true]
        refine ⟨by simp [List.getElem?_replicate], fun y hy => ?_⟩
        obtain ⟨p, rfl, rfl⟩ := nd_in (c.nd i hi) y hy
        unfold mayB
        have e : ((List.replicate (p + 1) true ++ List.replicate (m + 1) false).getD p false) = true := by
          rw [List.getD_eq_getElem?_getD, List.getElem?_append_left (by simp)]; simp [List.getElem?_replicate]
        simp only [Int.toNat_natCast, e, Bool.and_true]
        simp
        omega
    rw [order_some hn]
    have hset : (List.replicate i true ++ List.replicate (m + 1) false).set i true = List.replicate (i + 1) true ++ List.replicate m false := by
      rw [List.set_append_right _ _ (by simp)]
      rw [List.replicate_succ' (n := i)]
      simp [List.replicate_succ]
    rw [hset, chain_go c m (i + 1) f _ (by omega) (by omega)]
    simp [seqI, List.range'_succ]
theorem chain_order {l : List S38} {w : List Int} (c : Ch l w) : jobOrder l = seqI 0 l.length := by
  unfold jobOrder
  have := chain_go c l.length 0 (l.length + 1) [] (by omega) (by omega)
  simpa using this
theorem seq_len (n : Nat) : (seqI 0 n).length = n := by simp [seqI]
theorem seq_rd {n i : Nat} (h : i < n) : rd (seqI 0 n) (i : Int) = (i : Int) := by
  simp [rd, seqI, List.getD_eq_getElem?_getD, h]
def tailJ (k : Nat) (x3 : List Int) (o : Int) (ord : List Int) (n i : Int) (l : List S38) (f0 f7 f8 f9 : Int) (x7 : Int) : Option (List Int) :=
  if f0 = 1 then (if 0 ≤ o then (if o < (x3.length : Int) then (job_weights.l0 k (x3.set (o : Int).toNat 1) ord n (wrap64 (i + 1)) l) else (none)) else (none)) else (if f0 = 7 then (if f7 = 2 then (if f9 = 0 then (none) else (if 0 ≤ o then (if o < (x3.length : Int) then (job_weights.l0 k (x3.set (o : Int).toNat (mn (wrap64 (x7 * (wrap64 (Int.tdiv (wrap64 ((wrap64 (f8 + f9)) - 1)) f9)))) 65)) ord n (wrap64 (i + 1)) l) else (none)) else (none))) else (if 0 ≤ o then (if o < (x3.length : Int) then (job_weights.l0 k (x3.set (o : Int).toNat (mn x7 65)) ord n (wrap64 (i + 1)) l) else (none)) else (none))) else (if 0 ≤ o then (if o < (x3.length : Int) then (job_weights.l0 k (x3.set (o : Int).toNat (mn x7 65)) ord n (wrap64 (i + 1)) l) else (none)) else (none)))
def accJ (wp : Int) : Nat → Int → Int
  | 0, x => x
  | m + 1, x => accJ wp m (wrap64 (x + wp))
theorem jw_inner (l : List S38) (x3 ord : List Int) (o : Int) (i : Int) (x : S38) (p : Nat) (wp : Int) (hl : ∀ y ∈ x.f1, y = (p : Int) ∧ p < x3.length ∧ x3.getD p 0 = wp) (hs : x.f1.length ≤ 4) (r : List Int) :
    ∀ (m j : Nat) (x7 : Int), x.f1.length = j + m → Ev (fun k => tailJ k x3 o ord (ord.length : Int) i l x.f0 x.f5.f0 x.f5.f1 x.f5.f2 (accJ wp m x7)) r →
      Ev (fun k => job_weights.l1 k x3 o x7 ord (ord.length : Int) i x.f1 (x.f1.length : Int) (j : Int) l x.f0 x.f1 x.f2 x.f3.f0 x.f3.f1 x.f3.f2 x.f4 x.f5.f0 x.f5.f1 x.f5.f2) r := by
  intro m
  induction m with
  | zero =>
    intro j x7 hj h
    refine Ev.step (f := ?f2) (fun k => ?h2) ?r2
    case h2 => conv => lhs; rw [job_weights.l1, if_neg (by omega)]
    exact h
  | succ m ih =>
    intro j x7 hj h
    have hlt : j < x.f1.length := by omega
    obtain ⟨h1, h2, h3⟩ := hl _ (List.getElem_mem hlt)
    refine Ev.step (f := ?f3) (fun k => ?h3) ?r3
    case h3 => conv => lhs; rw [job_weights.l1, if_pos (by omega), if_pos (by omega), if_pos (by omega), rd_at hlt, h1, if_pos (by omega), if_pos (by omega), step_i hlt (by omega), show rd x3 (p : Int) = wp from h3]
    exact ih (j + 1) _ (by omega) h
theorem acc_small {wp : Int} (h1 : 1 ≤ wp) (h2 : wp ≤ 65) (c : Nat) (hc : c ≤ 4) : accJ wp c 0 = wp * (c : Int) := by
  have hcc : c = 0 ∨ c = 1 ∨ c = 2 ∨ c = 3 ∨ c = 4 := by omega
  rcases hcc with rfl | rfl | rfl | rfl | rfl <;> simp only [accJ, wrap64] <;> omega
theorem nd_len {N i : Nat} {wp wc : Int} {x : S38} (h : Nd N i wp x wc) : x.f1.length ≤ 4 := by
  cases h with
  | src => simp
  | uni p c _ _ hc hc' => simpa using hc'
  | mid => simp
  | win => simp
  | snk => simp
theorem mn_id {x : Int} (h : x ≤ 65) : mn x 65 = x := by unfold mn; split <;> omega
theorem nd_tailJ {N : Nat} {i : Nat} {wp wc : Int} {x : S38} (h : Nd N i wp x wc) (h1 : 1 ≤ wp) (h2 : wp ≤ 65) (k : Nat) (l : List S38) (x3 ord : List Int) (n : Int) (hi : i < x3.length) :
    tailJ k x3 (i : Int) ord n (i : Int) l x.f0 x.f5.f0 x.f5.f1 x.f5.f2 (accJ wp x.f1.length 0) = job_weights.l0 k (x3.set i wc) ord n (wrap64 ((i : Int) + 1)) l := by
  unfold tailJ
  cases h with
  | src => rw [if_pos rfl, if_pos (by omega), if_pos (by omega)]; rfl
  | uni p c _ _ hc hc' =>
    have e : accJ wp (List.replicate c (p : Int)).length 0 = wrap64 (wp * (c : Int)) := by
      rw [List.length_replicate, acc_small h1 h2 c hc']
      have := mul_le (t := (c : Int)) (b := 4) h1 h2 (by omega) (by omega) (by omega)
      rw [wrap_small (by omega) (by omega)]
    rw [if_neg (by simp), if_neg (by simp), if_pos (by omega), if_pos (by omega)]
    show job_weights.l0 k (x3.set _ (mn (accJ wp (List.replicate c (p : Int)).length 0) 65)) _ _ _ _ = _
    rw [e]; rfl
  | mid p =>
    have e : accJ wp [(p : Int)].length 0 = wp := by
      show accJ wp 1 0 = wp
      rw [acc_small h1 h2 1 (by omega)]; omega
    rw [if_neg (by simp), if_neg (by simp), if_pos (by omega), if_pos (by omega)]
    show job_weights.l0 k (x3.set _ (mn (accJ wp [(p : Int)].length 0) 65)) _ _ _ _ = _
    rw [e]; rfl
  | win p _ s d _ hs hs' hd hd' =>
    have e : accJ wp [(p : Int)].length 0 = wp := by
      show accJ wp 1 0 = wp
      rw [acc_small h1 h2 1 (by omega)]; omega
    rw [if_neg (by simp), if_pos rfl, if_pos rfl, if_neg (show ¬ d = 0 by omega), if_pos (by omega), if_pos (by omega)]
    show job_weights.l0 k (x3.set _ (mn (wrap64 (accJ wp [(p : Int)].length 0 * _)) 65)) _ _ _ _ = _
    rw [e]; rfl
  | snk p =>
    have e : accJ wp [(p : Int)].length 0 = wp := by
      show accJ wp 1 0 = wp
      rw [acc_small h1 h2 1 (by omega)]; omega
    rw [if_neg (by simp), if_neg (by simp), if_pos (by omega), if_pos (by omega)]
    show job_weights.l0 k (x3.set _ (mn (accJ wp [(p : Int)].length 0) 65)) _ _ _ _ = _
    rw [e, mn_id h2]; rfl
def Sofar (w x3 : List Int) (i : Nat) : Prop := x3.length = w.length ∧ ∀ j, j < i → x3.getD j 0 = w.getD j 0
theorem sofar_set {w x3 : List Int} {i : Nat} (h : Sofar w x3 i) (hi : i < w.length) : Sofar w (x3.set i (w.getD i 0)) (i + 1) := by
  refine ⟨by simpa using h.1, fun j hj => ?_⟩
  have hl := h.1
  rw [List.getD_eq_getElem?_getD, List.getElem?_set]
  by_cases hij : i = j
  · subst hij; rw [if_pos rfl, if_pos (by omega)]; simp
  · rw [if_neg hij, ← List.getD_eq_getElem?_getD]; exact h.2 j (by omega)
theorem sofar_all {w x3 : List Int} (h : Sofar w x3 w.length) : x3 = w := by
  refine List.ext_getElem h.1 (fun j h1 h2 => ?_)
  have := h.2 j h2
  rwa [wrd h1, wrd h2] at this
theorem Ch.in_of {l : List S38} {w : List Int} (c : Ch l w) {i : Nat} (hi : i < l.length) {x3 : List Int} (h : Sofar w x3 i) : ∀ y ∈ l[i].f1, y = ((i - 1 : Nat) : Int) ∧ i - 1 < x3.length ∧ x3.getD (i - 1) 0 = w.getD (i - 1) 0 := by
  intro y hy
  obtain ⟨p, rfl, rfl⟩ := nd_in (c.nd i hi) y hy
  have h1 := h.1
  have h2 := c.wl
  exact ⟨rfl, by omega, h.2 _ (by omega)⟩
theorem chain_weights {l : List S38} {w : List Int} (c : Ch l w) : ∀ (m i : Nat) (x3 : List Int), l.length = i + m → Sofar w x3 i → Ev (fun k => job_weights.l0 k x3 (seqI 0 l.length) ((seqI 0 l.length).length : Int) (i : Int) l) w := by
  intro m
  have hlen := c.len
  have hwl := c.wl
  have htwo := c.two
  induction m with
  | zero =>
    intro i x3 hi h
    refine Ev.step (f := ?f1) (fun k => ?h1) ?r1
    case h1 => conv => lhs; rw [job_weights.l0, if_neg (by rw [seq_len]; omega)]
    have e : i = w.length := by omega
    rw [e] at h
    exact ev_now (sofar_all h)
  | succ m ih =>
    intro i x3 hi h
    have hlt : i < l.length := by omega
    have h3 := h.1
    have hst : wrap64 ((i : Int) + 1) = ((i + 1 : Nat) : Int) := step_i hlt (by omega)
    refine Ev.step (f := ?f4) (fun k => ?h4) ?r4
    case h4 => conv => lhs; rw [job_weights.l0, if_pos (by rw [seq_len]; omega), if_pos (by omega), if_pos (by rw [seq_len]; omega), seq_rd hlt, if_pos (by omega), if_pos (by omega), rd38_at hlt]
    refine jw_inner l x3 (seqI 0 l.length) (i : Int) (i : Int) l[i] (i - 1) (w.getD (i - 1) 0) (c.in_of hlt h) (nd_len (c.nd i hlt)) w l[i].f1.length 0 0 (by omega) ?_
    refine Ev.congr (fun k => nd_tailJ (c.nd i hlt) (c.wp (show i - 1 < l.length by omega)).1 (c.wp (show i - 1 < l.length by omega)).2 k l x3 _ _ (by omega)) ?_
    rw [hst]
    exact ih (i + 1) _ (by omega) (sofar_set h (by omega))
end Go.Proofs.Ytpbmfdbfimcpjaa.X
namespace Go.Proofs.Ytpbmfdbfimcpjaa.X
open Go.RowKit Go.Proofs.YtpbmfdbfimcpjaaW.PrintWords
set_option linter.unusedVariables false
set_option linter.unusedSimpArgs false
def tail8 (k : Nat) (x3 ord : List Int) (i : Int) (l : List S38) (f0 f7 f8 f9 : Int) (x7 : Int) : Option (List Int) :=
  if f0 = 1 then (if f7 = 2 then (none) else (if 0 ≤ i then (if i < (ord.length : Int) then (if 0 ≤ (rd ord i) then (if (rd ord i) < (x3.length : Int) then (leatref8_Weights.l0 k (x3.set ((rd ord i) : Int).toNat 1) ord (wrap64 (i + 1)) l) else (none)) else (none)) else (none)) else (none))) else (if f7 = 2 then (if f9 = 0 then (none) else (if 0 ≤ i then (if i < (ord.length : Int) then (if 0 ≤ (rd ord i) then (if (rd ord i) < (x3.length : Int) then (leatref8_Weights.l0 k (x3.set ((rd ord i) : Int).toNat (mn (wrap64 ((mn (wrap64 ((wrap64 (Int.tdiv (wrap64 (f8 - 1)) f9)) + 1)) 65) * x7)) 65)) ord (wrap64 (i + 1)) l) else (none)) else (none)) else (none)) else (none))) else (if 0 ≤ i then (if i < (ord.length : Int) then (if 0 ≤ (rd ord i) then (if (rd ord i) < (x3.length : Int) then (leatref8_Weights.l0 k (x3.set ((rd ord i) : Int).toNat x7) ord (wrap64 (i + 1)) l) else (none)) else (none)) else (none)) else (none)))
def acc8 (wp : Int) : Nat → Int → Int
  | 0, x => x
  | m + 1, x => acc8 wp m (mn (wrap64 (x + wp)) 65)
theorem w8_inner (l : List S38) (x3 ord : List Int) (i : Int) (x : S38) (p : Nat) (wp : Int) (hl : ∀ y ∈ x.f1, y = (p : Int) ∧ p < x3.length ∧ x3.getD p 0 = wp) (hs : x.f1.length ≤ 4) (r : List Int) :
    ∀ (m j : Nat) (x7 : Int), x.f1.length = j + m → Ev (fun k => tail8 k x3 ord i l x.f0 x.f5.f0 x.f5.f1 x.f5.f2 (acc8 wp m x7)) r →
      Ev (fun k => leatref8_Weights.l1 k x3 ord i x7 (j : Int) l x.f0 x.f1 x.f2 x.f3.f0 x.f3.f1 x.f3.f2 x.f4 x.f5.f0 x.f5.f1 x.f5.f2) r := by
  intro m
  induction m with
  | zero =>
    intro j x7 hj h
    refine Ev.step (f := ?f2) (fun k => ?h2) ?r2
    case h2 => conv => lhs; rw [leatref8_Weights.l1, if_neg (by omega)]
    exact h
  | succ m ih =>
    intro j x7 hj h
    have hlt : j < x.f1.length := by omega
    obtain ⟨h1, h2, h3⟩ := hl _ (List.getElem_mem hlt)
    refine Ev.step (f := ?f3) (fun k => ?h3) ?r3
    case h3 => conv => lhs; rw [leatref8_Weights.l1, if_pos (by omega), if_pos (by omega), rd_at hlt, h1, if_pos (by omega), if_pos (by omega), step_i hlt (by omega), show rd x3 (p : Int) = wp from h3]
    exact ih (j + 1) _ (by omega) h
theorem acc8_small {wp : Int} (h1 : 1 ≤ wp) (h2 : wp ≤ 65) (c : Nat) (hc : c ≤ 4) : acc8 wp c 0 = mn (wp * (c : Int)) 65 := by
  have w : ∀ x : Int, 0 ≤ x → x ≤ 65 → wrap64 (x + wp) = x + wp := fun x _ _ => wrap_small (by omega) (by omega)
  have hcc : c = 0 ∨ c = 1 ∨ c = 2 ∨ c = 3 ∨ c = 4 := by omega
  have b : ∀ x : Int, 0 ≤ x → 0 ≤ mn x 65 ∧ mn x 65 ≤ 65 := fun x _ => by unfold mn; split <;> omega
  have s1 := b (0 + wp) (by omega)
  have s2 := b (mn (0 + wp) 65 + wp) (by omega)
  have s3 := b (mn (mn (0 + wp) 65 + wp) 65 + wp) (by omega)
  have q : ∀ x : Int, (mn x 65 = x ∧ x ≤ 65) ∨ (mn x 65 = 65 ∧ x > 65) := fun x => by unfold mn; split <;> omega
  have q1 := q (0 + wp)
  have q2 := q (mn (0 + wp) 65 + wp)
  have q3 := q (mn (mn (0 + wp) 65 + wp) 65 + wp)
  have q4 := q (mn (mn (mn (0 + wp) 65 + wp) 65 + wp) 65 + wp)
  have qq := q (wp * (c : Int))
  rcases hcc with rfl | rfl | rfl | rfl | rfl
  · simp only [acc8]; omega
  · simp only [acc8]; rw [w 0 (by omega) (by omega)]; omega
  · simp only [acc8]; rw [w 0 (by omega) (by omega), w _ s1.1 s1.2]; omega
  · simp only [acc8]; rw [w 0 (by omega) (by omega), w _ s1.1 s1.2, w _ s2.1 s2.2]; omega
  · simp only [acc8]; rw [w 0 (by omega) (by omega), w _ s1.1 s1.2, w _ s2.1 s2.2, w _ s3.1 s3.2]; omega
theorem nd_tail8 {N : Nat} {i : Nat} {wp wc : Int} {x : S38} (h : Nd N i wp x wc) (h1 : 1 ≤ wp) (h2 : wp ≤ 65) (k : Nat) (l : List S38) (x3 ord : List Int) (hi : i < x3.length) (ho : (i : Int) < (ord.length : Int)) (hr : rd ord (i : Int) = (i : Int)) :
    tail8 k x3 ord (i : Int) l x.f0 x.f5.f0 x.f5.f1 x.f5.f2 (acc8 wp x.f1.length 0) = leatref8_Weights.l0 k (x3.set i wc) ord (wrap64 ((i : Int) + 1)) l := by
  unfold tail8
  rw [hr]
  have e1 : acc8 wp 1 0 = wp := by rw [acc8_small h1 h2 1 (by omega)]; rw [mn_id (by omega)]; omega
  cases h with
  | src => rw [if_pos rfl, if_neg (by simp), if_pos (by omega), if_pos ho, if_pos (by omega), if_pos (by omega)]; rfl
  | uni p c _ _ hc hc' =>
    have e : acc8 wp (List.replicate c (p : Int)).length 0 = mn (wrap64 (wp * (c : Int))) 65 := by
      rw [List.length_replicate, acc8_small h1 h2 c hc']
      have := mul_le (t := (c : Int)) (b := 4) h1 h2 (by omega) (by omega) (by omega)
      rw [wrap_small (x := wp * (c : Int)) (by omega) (by omega)]
    rw [if_neg (by simp), if_neg (by simp), if_pos (by omega), if_pos ho, if_pos (by omega), if_pos (by omega)]
    show leatref8_Weights.l0 k (x3.set _ (acc8 wp (List.replicate c (p : Int)).length 0)) _ _ _ = _
    rw [e]; rfl
  | mid p =>
    rw [if_neg (by simp), if_neg (by simp), if_pos (by omega), if_pos ho, if_pos (by omega), if_pos (by omega)]
    show leatref8_Weights.l0 k (x3.set _ (acc8 wp 1 0)) _ _ _ = _
    rw [e1, mn_id h2]; rfl
  | win p _ s d _ hs hs' hd hd' =>
    obtain ⟨t, t1, t2, t3, t4⟩ := times_ok s d hs hs' hd hd'
    have := mul_le (t := t) (b := 7) h1 h2 t3 t4 (by omega)
    rw [if_neg (by simp), if_pos rfl, if_neg (show ¬ d = 0 by omega), if_pos (by omega), if_pos ho, if_pos (by omega), if_pos (by omega)]
    show leatref8_Weights.l0 k (x3.set _ (mn (wrap64 (mn (wrap64 ((wrap64 (Int.tdiv (wrap64 (s - 1)) d)) + 1)) 65 * acc8 wp 1 0)) 65)) _ _ _ = _
    unfold winW
    rw [e1, t2, t1, mn_id (show t ≤ 65 by omega), Int.mul_comm t wp]; rfl
  | snk p =>
    rw [if_neg (by simp), if_neg (by simp), if_pos (by omega), if_pos ho, if_pos (by omega), if_pos (by omega)]
    show leatref8_Weights.l0 k (x3.set _ (acc8 wp 1 0)) _ _ _ = _
    rw [e1]; rfl
theorem chain_weights8 {l : List S38} {w : List Int} (c : Ch l w) : ∀ (m i : Nat) (x3 : List Int), l.length = i + m → Sofar w x3 i → Ev (fun k => leatref8_Weights.l0 k x3 (seqI 0 l.length) (i : Int) l) w := by
  intro m
  have hlen := c.len
  have hwl := c.wl
  have htwo := c.two
  induction m with
  | zero =>
    intro i x3 hi h
    refine Ev.step (f := ?f1) (fun k => ?h1) ?r1
    case h1 => conv => lhs; rw [leatref8_Weights.l0, if_neg (by rw [seq_len]; omega)]
    have e : i = w.length := by omega
    rw [e] at h
    exact ev_now (sofar_all h)
  | succ m ih =>
    intro i x3 hi h
    have hlt : i < l.length := by omega
    have h3 := h.1
    have hst : wrap64 ((i : Int) + 1) = ((i + 1 : Nat) : Int) := step_i hlt (by omega)
    refine Ev.step (f := ?f4) (fun k => ?h4) ?r4
    case h4 => conv => lhs; rw [leatref8_Weights.l0, if_pos (by rw [seq_len]; omega), if_pos (by omega), seq_rd hlt, if_pos (by omega), if_pos (by omega), rd38_at hlt]
    refine w8_inner l x3 (seqI 0 l.length) (i : Int) l[i] (i - 1) (w.getD (i - 1) 0) (c.in_of hlt h) (nd_len (c.nd i hlt)) w l[i].f1.length 0 0 (by omega) ?_
    refine Ev.congr (fun k => nd_tail8 (c.nd i hlt) (c.wp (show i - 1 < l.length by omega)).1 (c.wp (show i - 1 < l.length by omega)).2 k l x3 _ (by omega) (by rw [seq_len]; omega) (seq_rd hlt)) ?_
    rw [hst]
    exact ih (i + 1) _ (by omega) (sofar_set h (by omega))
theorem chain_shape {l : List S38} {w : List Int} (c : Ch l w) : Ev (fun k => job_shape.f k l) 0 := by
  have hlen := c.len
  have htwo := c.two
  have loop : ∀ (m i : Nat), l.length = i + m → Ev (fun k => job_shape.l0 k l (l.length : Int) (i : Int) l) 0 := by
    intro m
    induction m with
    | zero =>
      intro i hi
      refine Ev.step (f := ?f1) (fun k => ?h1) ?r1
      case h1 => conv => lhs; rw [job_shape.l0, if_neg (by omega)]
      refine Ev.bind (a := jobOrder l) (Ev.congr (fun k => by rw [job_Order.f, if_pos (by omega)]) (Ev.now _)) ?_
      exact ev_neg (by rw [chain_order c, seq_len]; omega) (Ev.now _)
    | succ m ih =>
      intro i hi
      have hlt : i < l.length := by omega
      refine Ev.step (f := ?f2) (fun k => ?h2) ?r2
      case h2 => conv => lhs; rw [job_shape.l0, if_pos (by omega), if_pos (by omega), if_pos (by omega), rd38_at hlt, step_i hlt (by omega)]
      refine Ev.bind (nd_node l (c.nd i hlt) (fun y hy => ?_)) (ev_pos rfl (ih (i + 1) (by omega)))
      obtain ⟨h1, h2, h3⟩ := c.good_in hlt y hy
      unfold badIn
      simp [h3]; omega
  have j0 : Ev (fun k => job_shape.j0 k false l) 0 := by
    refine Ev.step (f := ?f3) (fun k => ?h3) ?r3
    case h3 => conv => lhs; rw [job_shape.j0, if_neg (by decide)]
    exact loop l.length 0 (by omega)
  unfold job_shape.f
  refine ev_neg (by omega) ?_
  have e : decide ((l.length : Int) > 12) = false := decide_eq_false (by omega)
  refine Ev.congr (fun k => by first | (rw [e]) | skip) ?_
  exact j0
theorem chain_jweights {l : List S38} {w : List Int} (c : Ch l w) : Ev (fun k => job_weights.f k l) w := by
  have hlen := c.len
  have hwl := c.wl
  unfold job_weights.f
  refine ev_pos (by omega) (ev_pos (by omega) ?_)
  refine Ev.bind (a := jobOrder l) (Ev.congr (fun k => by rw [job_Order.f, if_pos (by omega)]) (Ev.now _)) ?_
  rw [chain_order c]
  exact chain_weights c l.length 0 _ (by omega) ⟨by simp; omega, fun j h => absurd h (by omega)⟩
theorem chain_Weights {l : List S38} {w : List Int} (c : Ch l w) : Ev (fun k => job_Weights.f k l) w := by
  unfold job_Weights.f
  refine Ev.bind (chain_shape c) (ev_pos rfl ?_)
  exact Ev.bind (chain_jweights c) (Ev.now _)
theorem chain_Check {l : List S38} {w : List Int} (c : Ch l w) (hk : ∃ x ∈ l, x.f0 = 8) : Ev (fun k => job_Check.f k l) (if (w.any fun x => decide (x > 64)) = true then 88 else 0) := by
  unfold job_Check.f
  refine Ev.bind (chain_shape c) (ev_pos rfl ?_)
  refine Ev.bind (chain_jweights c) ?_
  have hA : Ev (fun _ : Nat => slices_ContainsFunc_int_int__job_Check_1.f w ()) (w.any fun x => decide (x > 64)) := Ev.now _
  have hB : Ev (fun _ : Nat => api_Node__job_Check_2.f l ()) (l.any fun x => x.f0 == 8) := Ev.now _
  refine Ev.bind hA ?_
  by_cases hh : (w.any fun x => decide (x > 64)) = true
  · have hr : (if (w.any fun x => decide (x > 64)) = true then (88 : Int) else 0) = 88 := if_pos hh
    exact ev_pos hh (ev_now hr.symm)
  · have hr : (if (w.any fun x => decide (x > 64)) = true then (88 : Int) else 0) = 0 := if_neg hh
    refine ev_neg hh ?_
    have e : (l.any fun x => x.f0 == 8) = true := by
      obtain ⟨x, hx, h8⟩ := hk
      exact List.any_eq_true.2 ⟨x, hx, by simp [h8]⟩
    exact Ev.bind hB (ev_pos e (ev_now hr.symm))
theorem chain_light8 {l : List S38} {w : List Int} (c : Ch l w) : Ev (fun k => leatref8_light.f k l) 0 := by
  have hlen := c.len
  have htwo := c.two
  have loop : ∀ (m i : Nat), l.length = i + m → Ev (fun k => leatref8_light.l0 k (i : Int) l) 0 := by
    intro m
    induction m with
    | zero =>
      intro i hi
      refine Ev.step (f := ?f1) (fun k => ?h1) ?r1
      case h1 => conv => lhs; rw [leatref8_light.l0, if_neg (by omega)]
      refine Ev.bind (order8_ev l (by omega) c.small) ?_
      exact ev_neg (by rw [chain_order c, seq_len]; omega) (Ev.now _)
    | succ m ih =>
      intro i hi
      have hlt : i < l.length := by omega
      refine Ev.step (f := ?f2) (fun k => ?h2) ?r2
      case h2 => conv => lhs; rw [leatref8_light.l0, if_pos (by omega), if_pos (by omega), rd38_at hlt, step_i hlt (by omega)]
      exact Ev.bind (nd_node8 l (c.nd i hlt) (c.good_in hlt)) (ev_pos rfl (ih (i + 1) (by omega)))
  unfold leatref8_light.f
  refine ev_neg (by omega) ?_
  have e : decide ((l.length : Int) > 12) = false := decide_eq_false (by omega)
  refine Ev.step (f := ?f3) (fun k => ?h3) ?r3
  case h3 => conv => lhs; rw [e, leatref8_light.j0, if_neg (by decide)]
  exact loop l.length 0 (by omega)
theorem chain_Weights8 {l : List S38} {w : List Int} (c : Ch l w) : Ev (fun k => leatref8_Weights.f k l) w := by
  have hlen := c.len
  have hwl := c.wl
  unfold leatref8_Weights.f
  refine Ev.bind (chain_light8 c) (ev_pos rfl (ev_pos (by omega) (ev_pos (by omega) ?_)))
  refine Ev.bind (order8_ev l (by omega) c.small) ?_
  rw [chain_order c]
  exact chain_weights8 c l.length 0 _ (by omega) ⟨by simp; omega, fun j h => absurd h (by omega)⟩
theorem ints_same (w : List Int) (hw : w.length ≤ 1000) : Ev (fun k => leathelp_Ints.f k w w) true := by
  have loop : ∀ (m i : Nat), w.length = i + m → Ev (fun k => leathelp_Ints.l0 k w w (i : Int)) true := by
    intro m
    induction m with
    | zero =>
      intro i hi
      refine Ev.step (f := ?f1) (fun k => ?h1) ?r1
      case h1 => conv => lhs; rw [leathelp_Ints.l0, if_neg (by omega)]
      exact Ev.now _
    | succ m ih =>
      intro i hi
      have hlt : i < w.length := by omega
      refine Ev.step (f := ?f2) (fun k => ?h2) ?r2
      case h2 => conv => lhs; rw [leathelp_Ints.l0, if_pos (by omega), if_pos (by omega), if_pos (by omega), if_pos rfl, step_i hlt (by omega)]
      exact ih (i + 1) (by omega)
  unfold leathelp_Ints.f
  exact ev_pos rfl (loop w.length 0 (by omega))
end Go.Proofs.Ytpbmfdbfimcpjaa.X
