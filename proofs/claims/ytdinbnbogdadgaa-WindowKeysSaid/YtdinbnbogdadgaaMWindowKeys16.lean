/- Proofs towards the law WindowKeys, joined into one text. No conditions beyond those typed. -/
import Derived.Test.YtdinbnbogdadgaaMWindowKeys10
import Derived.Test.YtdinbnbogdadgaaMWindowKeys15
import Derived.Test.YtdinbnbogdadgaaMWindowKeys7
import Derived.Test.YtdinbnbogdadgaaMWindowKeys13
namespace Go.Proofs.Ytdinbnbogdadgaa.X
open Go.RowKit Go.Proofs.YtdinbnbogdadgaaW.PrintWords Go.Proofs.YtdinbnbogdadgaaW.PrintLast Go.Proofs.YtdinbnbogdadgaaW.PrintMore
attribute [local go_sem] max2_int min2_int max_two min_two max_three min_three max_four min_four   -- for this text's walks alone
set_option linter.unusedVariables false
set_option linter.unusedSimpArgs false
mutual
def leatlaw11_WindowKeys.j0 : Nat → Int → List (S37) → Bool → Int → Int → Int → Option (Bool)
 | 0, _, _, _, _, _, _ => none
 | k + 1, x1, x2, x25, x486000, x486001, x486002 => if x25 = true then (some true) else (leatlaw11_WindowKeys.l0 k x1 x2 ([] : List (S46)) ([] : List (S46)) ([] : List (S46)) 0 x486000 x486001 x486002)
def leatlaw11_WindowKeys.l0 : Nat → Int → List (S37) → List (S46) → List (S46) → List (S46) → Int → Int → Int → Int → Option (Bool)
 | 0, _, _, _, _, _, _, _, _, _ => none
 | k + 1, x1, x2, x7, x8, x9, x10, x486000, x486001, x486002 => if x10 < (x2.length : Int) then (if 0 ≤ x10 then ((leatlaw11_time.f ((rd_T37 x2 x10).f1)).bind fun t500 => (if t500 = true then ((window_Put.f k x486000 x486001 x486002 x1 x7 ((rd_T37 x2 x10).f0) ((rd_T37 x2 x10).f1) ((rd_T37 x2 x10).f2)).bind fun t502 => (if (Int.tmod ((rd_T37 x2 x10).f0) 2) = 0 then ((window_Put.f k x486000 x486001 x486002 x1 x8 ((rd_T37 x2 x10).f0) ((rd_T37 x2 x10).f1) ((rd_T37 x2 x10).f2)).bind fun t507 => (leatlaw11_WindowKeys.l0 k x1 x2 t502 t507 x9 (wrap64 (x10 + 1)) x486000 x486001 x486002)) else ((window_Put.f k x486000 x486001 x486002 x1 x9 ((rd_T37 x2 x10).f0) ((rd_T37 x2 x10).f1) ((rd_T37 x2 x10).f2)).bind fun t511 => (leatlaw11_WindowKeys.l0 k x1 x2 t502 x8 t511 (wrap64 (x10 + 1)) x486000 x486001 x486002)))) else (some true))) else (none)) else (if ([] : List (S46)).length + x9.length < 4398046511104 then ((some (([] : List (S46)) ++ x9 : List (S46))).bind fun y489 => (if y489.length + x8.length < 4398046511104 then ((window_Sort.f (y489 ++ x8)).bind fun t495 => ((leathelp_Panes.f k x7 t495).bind fun t498 => (some t498))) else (none))) else (none))
end
def leatlaw11_WindowKeys.f (k : Nat) (a0_0 : Int) (a0_1 : Int) (a0_2 : Int) (a1 : Int) (l2 : List (S37)) : Option (Bool) := (leatlaw11_known.f k).bind fun t486 => (if t486 = true then ((leatlaw11_fit.f k a0_0 a0_1 a0_2).bind fun t487 => (if t487 = true then (if (l2.length : Int) > 60 then (leatlaw11_WindowKeys.j0 k a1 l2 true a0_0 a0_1 a0_2) else ((agg_Is.f a1).bind fun t488 => (leatlaw11_WindowKeys.j0 k a1 l2 (!t488) a0_0 a0_1 a0_2))) else (leatlaw11_WindowKeys.j0 k a1 l2 true a0_0 a0_1 a0_2))) else (none))
def leatlaw11_WindowKeys.T11 : Bool × List (List Nat × List Nat) := (true, [([], []), ([], []), ([], []), ([], []), ([], []), ([3, 4], [3, 4]), ([5], [5]), ([0, 1, 2, 6], [0, 1, 2, 6]), ([7, 7, 0, 1, 2, 3, 4, 5, 6, 7], [2, 7])])
def leatlaw11_WindowKeys.B11 : List Nat := [0, 0, 0, 0, 0, 24, 56, 127, 255]
theorem leatlaw11_WindowKeys.tab11 : rtab .any (opsOf Try.f9 11) = leatlaw11_WindowKeys.T11 := by kernel_rfl
theorem leatlaw11_WindowKeys.bits11 : waitsOk leatlaw11_WindowKeys.T11.2 leatlaw11_WindowKeys.B11 = true := by kernel_rfl
def leatlaw11_WindowKeys.T13 : Bool × List (List Nat × List Nat) := (true, [([], []), ([], []), ([], []), ([], []), ([], []), ([3, 4], [3, 4]), ([5], [5]), ([0, 1, 2, 6], [0, 1, 2, 6]), ([7, 7, 0, 1, 2, 3, 4, 5, 6, 7], [2, 7])])
def leatlaw11_WindowKeys.B13 : List Nat := [0, 0, 0, 0, 0, 24, 56, 127, 255]
theorem leatlaw11_WindowKeys.tab13 : rtab .any (opsOf Try.f9 13) = leatlaw11_WindowKeys.T13 := by kernel_rfl
theorem leatlaw11_WindowKeys.bits13 : waitsOk leatlaw11_WindowKeys.T13.2 leatlaw11_WindowKeys.B13 = true := by kernel_rfl
def leatlaw11_WindowKeys.T14 : Bool × List (List Nat × List Nat) := (true, [([], []), ([], []), ([], []), ([], []), ([], []), ([3, 4], [3, 4]), ([5], [5]), ([0, 1, 2, 6], [0, 1, 2, 6]), ([7, 7, 0, 1, 2, 3, 4, 5, 6, 7], [2, 7])])
def leatlaw11_WindowKeys.B14 : List Nat := [0, 0, 0, 0, 0, 24, 56, 127, 255]
theorem leatlaw11_WindowKeys.tab14 : rtab .any (opsOf Try.f9 14) = leatlaw11_WindowKeys.T14 := by kernel_rfl
theorem leatlaw11_WindowKeys.bits14 : waitsOk leatlaw11_WindowKeys.T14.2 leatlaw11_WindowKeys.B14 = true := by kernel_rfl
set_option maxHeartbeats 8000000 in
set_option maxRecDepth 100000 in
theorem leatlaw11_WindowKeys.calls (k : Nat) (a0_0 : Int) (a0_1 : Int) (a0_2 : Int) (a1 : Int) (A2 : Option Addr) (c2 : Nat) (l2 : List (S37)) (r : Bool) (w : World) (hr2 : Kd.C k37 w A2 l2.length l2) (hc2 : l2.length ≤ c2) (h : leatlaw11_WindowKeys.f k a0_0 a0_1 a0_2 a1 l2 = some r) :
  Calls Try.prog 9 #[.agg #[.int .i64 a0_0, .int .i64 a0_1, .int .i64 a0_2], .int .i64 a1, .slice A2 l2.length c2] w fun e w' => e = .returned (.bool r) ∧ Below w.heap.size w w' := by
 have hu23 := Try.underlying23
 have hu37 := Try.underlying37
 have HR2 := Aside0.mk hr2
 have HC2 := Aside0.mk hc2
 clear hr2 hc2
 have HB := Aside0.mk (Below.refl w.heap.size w)
 have H : ((leatlaw11_known.f k).bind fun t486 => (if t486 = true then ((leatlaw11_fit.f k a0_0 a0_1 a0_2).bind fun t487 => (if t487 = true then (if (l2.length : Int) > 60 then (leatlaw11_WindowKeys.j0 k a1 l2 true a0_0 a0_1 a0_2) else ((agg_Is.f a1).bind fun t488 => (leatlaw11_WindowKeys.j0 k a1 l2 (!t488) a0_0 a0_1 a0_2))) else (leatlaw11_WindowKeys.j0 k a1 l2 true a0_0 a0_1 a0_2))) else (none))) = some r := h
 clear h
 replace H := Option.bind_eq_some_iff.mp H
 obtain ⟨t486, A40, H⟩ := H
 replace H : (if t486 = true then ((leatlaw11_fit.f k a0_0 a0_1 a0_2).bind fun t487 => (if t487 = true then (if (l2.length : Int) > 60 then (leatlaw11_WindowKeys.j0 k a1 l2 true a0_0 a0_1 a0_2) else ((agg_Is.f a1).bind fun t488 => (leatlaw11_WindowKeys.j0 k a1 l2 (!t488) a0_0 a0_1 a0_2))) else (leatlaw11_WindowKeys.j0 k a1 l2 true a0_0 a0_1 a0_2))) else (none)) = some r := H
 have A4 := Aside0.mk A40
 clear A40
 by_cases c5 : t486 = true
 ·subst c5
  have H1 : ((leatlaw11_fit.f k a0_0 a0_1 a0_2).bind fun t487 => (if t487 = true then (if (l2.length : Int) > 60 then (leatlaw11_WindowKeys.j0 k a1 l2 true a0_0 a0_1 a0_2) else ((agg_Is.f a1).bind fun t488 => (leatlaw11_WindowKeys.j0 k a1 l2 (!t488) a0_0 a0_1 a0_2))) else (leatlaw11_WindowKeys.j0 k a1 l2 true a0_0 a0_1 a0_2))) = some r := by rw [if_pos rfl] at H; exact H
  clear H
  have H := H1
  clear H1
  have HC6 := Aside0.mk H
  clear H
  go_enter Try.func9, Try.ntmps9
  go_upto_region 3 with (first | ((with_reducible refine gate_dst (N := 3) rfl ?_); (try (refine gate_guard (by rfl) ?_; dsimp only)); refine box_event ?hg (N := 3) ?hd (cs := #[.int .i64 a0_0, .int .i64 a0_1, .int .i64 a0_2]) (t := 23) ?hr ?_; (case hd => rfl); (case hg => rfl); (case hr => first | (go_simp; done) | (go_simp; rfl)); intro gb485 hg w7 hbox hb; have n0_ := Aside0.mk (below_step (by repeat (first | (with_reducible first | exact HB.out | apply below_alloc | apply pw_below_drewN | apply below_drew1) | exact HB.out)) hb); have n1_ := Aside0.mk (hbox); have n2_ := Aside0.mk ((by rw [hg]; exact (below_size (by repeat (first | (with_reducible first | exact HB.out | apply below_alloc | apply pw_below_drewN | apply below_drew1) | exact HB.out))) : w.heap.size ≤ gb485)); have n3_ := Aside0.mk ((by rw [hg]; exact (below_size (by repeat (first | (with_reducible first | exact HB.out | apply below_alloc | apply pw_below_drewN | apply below_drew1) | exact HB.out))) : w.heap.size ≤ gb485)); clear HB; have HB := n0_; have BK485 := n1_; have GW485 := n2_; have GE485 := n3_; clear n0_ n1_ n2_ n3_; clear hb hbox hg) | ((with_reducible refine gate_callee (f := 12) rfl ?_); refine goesL_ (some 11) rfl rfl Try.func12 (by kernel_rfl) rfl #[] rfl (by (try simp only [List.map_toArray, List.map_cons, List.map_nil]); first | done | rfl | (simp only [List.length_drop, List.length_take]; rfl)) ?_; (with_reducible refine (leatlaw11_known.calls k  true _ A4.out).mono ?_); rintro e w8 ⟨rfl, hb⟩; refine ⟨_, rfl, ?_⟩; have n0_ := Aside0.mk (blk_below (g := gb485) (o := .cells #[.int .i64 a0_0, .int .i64 a0_1, .int .i64 a0_2] 23 (0, 0)) (by (with_reducible repeat (first | refine blk_drewN ?_ _ | refine blk_drew ?_ | refine blk_alloc ?_ _)); exact BK485.out) hb); have n1_ := Aside0.mk (below_step (by repeat (first | (with_reducible first | exact HB.out | apply below_alloc | apply pw_below_drewN | apply below_drew1 | refine below_set ?_ GE485.out) | exact HB.out)) hb); clear BK485; clear HB; have BK485 := n0_; have HB := n1_; clear n0_ n1_; (try clear hb); (try clear hb2); (try clear hk); (try clear hi)))
  (try simp only [Act.put, List.setIfInBounds_toArray, List.set_cons_zero, List.set_cons_succ])
  go_cut [25] (fun v25 wc => ∃ (kq : Nat) (x25_5 : Bool), v25 = .bool x25_5 ∧ Aside0 (leatlaw11_WindowKeys.j0 kq a1 l2 x25_5 a0_0 a0_1 a0_2 = some r) ∧ Aside0 (kq ≤ k) ∧ Aside0 (wc.heap[gb485]? = some (.cells #[.int .i64 a0_0, .int .i64 a0_1, .int .i64 a0_2] 23 (0, 0))) ∧ Aside0 (Below w.heap.size w wc))
  case first =>
   have H := HC6.out
   clear HC6
   replace H := Option.bind_eq_some_iff.mp H
   obtain ⟨t487, A90, H⟩ := H
   replace H : (if t487 = true then (if (l2.length : Int) > 60 then (leatlaw11_WindowKeys.j0 k a1 l2 true a0_0 a0_1 a0_2) else ((agg_Is.f a1).bind fun t488 => (leatlaw11_WindowKeys.j0 k a1 l2 (!t488) a0_0 a0_1 a0_2))) else (leatlaw11_WindowKeys.j0 k a1 l2 true a0_0 a0_1 a0_2)) = some r := H
   have A9 := Aside0.mk A90
   clear A90
   by_cases c10 : t487 = true
   ·subst c10
    have H1 : (if (l2.length : Int) > 60 then (leatlaw11_WindowKeys.j0 k a1 l2 true a0_0 a0_1 a0_2) else ((agg_Is.f a1).bind fun t488 => (leatlaw11_WindowKeys.j0 k a1 l2 (!t488) a0_0 a0_1 a0_2))) = some r := by rw [if_pos rfl] at H; exact H
    clear H
    have H := H1
    clear H1
    by_cases c11 : (l2.length : Int) > 60
    ·rw [if_pos c11] at H
     have c11b0 : decide (60 < (l2.length : Int)) = true := decide_eq_true c11
     have c11b1 : decide (60 < l2.length) = true := decide_eq_true (by omega)
     clear c11
     (first | rw [c11b0] | (simp only [i64_w, i32_w]; rw [c11b0]) | skip)
     have H' := Aside0.mk H
     clear H
     have hcz12_0 : w8.cell? ⟨gb485, 0, none⟩ = some (.int .i64 a0_0) := (blk_cell BK485.out 0).trans rfl
     have hcz12_1 : w8.cell? ⟨gb485, 1, none⟩ = some (.int .i64 a0_1) := (blk_cell BK485.out 1).trans rfl
     have hcz12_2 : w8.cell? ⟨gb485, 2, none⟩ = some (.int .i64 a0_2) := (blk_cell BK485.out 2).trans rfl
     have hfz12_0 := blk_frozen BK485.out 0
     have hfz12_1 := blk_frozen BK485.out 1
     have hfz12_2 := blk_frozen BK485.out 2
     go_wp2_with (first | ((with_reducible refine gate_callee (f := 13) rfl ?_); refine goesL_ (some 14) rfl rfl Try.func13 (by kernel_rfl) rfl #[.agg #[.int .i64 a0_0, .int .i64 a0_1, .int .i64 a0_2]] rfl (by (try simp only [List.map_toArray, List.map_cons, List.map_nil]); first | done | rfl | (simp only [List.length_drop, List.length_take]; rfl)) ?_; (with_reducible refine (leatlaw11_fit.calls k a0_0 a0_1 a0_2 true _ A9.out).mono ?_); rintro e w13 ⟨rfl, hb⟩; refine ⟨_, rfl, ?_⟩; have n0_ := Aside0.mk (blk_below (g := gb485) (o := .cells #[.int .i64 a0_0, .int .i64 a0_1, .int .i64 a0_2] 23 (0, 0)) (by (with_reducible repeat (first | refine blk_drewN ?_ _ | refine blk_drew ?_ | refine blk_alloc ?_ _)); exact BK485.out) hb); have n1_ := Aside0.mk (below_step (by repeat (first | (with_reducible first | exact HB.out | apply below_alloc | apply pw_below_drewN | apply below_drew1 | refine below_set ?_ GE485.out) | exact HB.out)) hb); clear BK485; clear HB; have BK485 := n0_; have HB := n1_; clear n0_ n1_; (try clear hb); (try clear hb2); (try clear hk); (try clear hi)))
     go_meet
     case rel => exact ⟨_, (true), (by first | rfl | (simp; done) | (simp [*]; done)), H', ⟨by first | omega | exact Nat.le_refl _⟩, ⟨by (with_reducible repeat (first | refine blk_drewN ?_ _ | refine blk_drew ?_ | refine blk_alloc ?_ _)); exact BK485.out⟩, ⟨by repeat (first | (with_reducible first | exact HB.out | apply below_alloc | apply pw_below_drewN | apply below_drew1 | refine below_set ?_ GE485.out) | exact HB.out)⟩⟩
    ·rw [if_neg c11] at H
     have c11b0 : decide (60 < (l2.length : Int)) = false := decide_eq_false c11
     have c11b1 : decide (60 < l2.length) = false := decide_eq_false (by omega)
     clear c11
     (first | rw [c11b0] | (simp only [i64_w, i32_w]; rw [c11b0]) | skip)
     replace H := Option.bind_eq_some_iff.mp H
     obtain ⟨t488, A140, H⟩ := H
     replace H : (leatlaw11_WindowKeys.j0 k a1 l2 (!t488) a0_0 a0_1 a0_2) = some r := H
     have A14 := Aside0.mk A140
     clear A140
     have H' := Aside0.mk H
     clear H
     have hcz15_0 : w8.cell? ⟨gb485, 0, none⟩ = some (.int .i64 a0_0) := (blk_cell BK485.out 0).trans rfl
     have hcz15_1 : w8.cell? ⟨gb485, 1, none⟩ = some (.int .i64 a0_1) := (blk_cell BK485.out 1).trans rfl
     have hcz15_2 : w8.cell? ⟨gb485, 2, none⟩ = some (.int .i64 a0_2) := (blk_cell BK485.out 2).trans rfl
     have hfz15_0 := blk_frozen BK485.out 0
     have hfz15_1 := blk_frozen BK485.out 1
     have hfz15_2 := blk_frozen BK485.out 2
     go_wp2_with (first | ((with_reducible refine gate_callee (f := 13) rfl ?_); refine goesL_ (some 14) rfl rfl Try.func13 (by kernel_rfl) rfl #[.agg #[.int .i64 a0_0, .int .i64 a0_1, .int .i64 a0_2]] rfl (by (try simp only [List.map_toArray, List.map_cons, List.map_nil]); first | done | rfl | (simp only [List.length_drop, List.length_take]; rfl)) ?_; (with_reducible refine (leatlaw11_fit.calls k a0_0 a0_1 a0_2 true _ A9.out).mono ?_); rintro e w16 ⟨rfl, hb⟩; refine ⟨_, rfl, ?_⟩; have n0_ := Aside0.mk (blk_below (g := gb485) (o := .cells #[.int .i64 a0_0, .int .i64 a0_1, .int .i64 a0_2] 23 (0, 0)) (by (with_reducible repeat (first | refine blk_drewN ?_ _ | refine blk_drew ?_ | refine blk_alloc ?_ _)); exact BK485.out) hb); have n1_ := Aside0.mk (below_step (by repeat (first | (with_reducible first | exact HB.out | apply below_alloc | apply pw_below_drewN | apply below_drew1 | refine below_set ?_ GE485.out) | exact HB.out)) hb); clear BK485; clear HB; have BK485 := n0_; have HB := n1_; clear n0_ n1_; (try clear hb); (try clear hb2); (try clear hk); (try clear hi)) | (go_at_call 27; (with_reducible refine (agg_Is.calls a1 t488 _ A14.out).mono ?_); rintro e w17 ⟨rfl, hb⟩; have n0_ := Aside0.mk (blk_below (g := gb485) (o := .cells #[.int .i64 a0_0, .int .i64 a0_1, .int .i64 a0_2] 23 (0, 0)) (by (with_reducible repeat (first | refine blk_drewN ?_ _ | refine blk_drew ?_ | refine blk_alloc ?_ _)); exact BK485.out) hb); have n1_ := Aside0.mk (below_step (by repeat (first | (with_reducible first | exact HB.out | apply below_alloc | apply pw_below_drewN | apply below_drew1 | refine below_set ?_ GE485.out) | exact HB.out)) hb); clear BK485; clear HB; have BK485 := n0_; have HB := n1_; clear n0_ n1_; (try clear hb); (try clear hb2); (try clear hk); (try clear hi)))
     go_meet
     case rel => exact ⟨_, (!t488), (by first | rfl | (simp; done) | (simp [*]; done)), H', ⟨by first | omega | exact Nat.le_refl _⟩, ⟨by (with_reducible repeat (first | refine blk_drewN ?_ _ | refine blk_drew ?_ | refine blk_alloc ?_ _)); exact BK485.out⟩, ⟨by repeat (first | (with_reducible first | exact HB.out | apply below_alloc | apply pw_below_drewN | apply below_drew1 | refine below_set ?_ GE485.out) | exact HB.out)⟩⟩
   ·replace c10 := Bool.eq_false_iff.mpr c10
    subst c10
    have H1 : (leatlaw11_WindowKeys.j0 k a1 l2 true a0_0 a0_1 a0_2) = some r := by rw [if_neg (show ¬ (false = true) by decide)] at H; exact H
    clear H
    have H := H1
    clear H1
    have H' := Aside0.mk H
    clear H
    have hcz18_0 : w8.cell? ⟨gb485, 0, none⟩ = some (.int .i64 a0_0) := (blk_cell BK485.out 0).trans rfl
    have hcz18_1 : w8.cell? ⟨gb485, 1, none⟩ = some (.int .i64 a0_1) := (blk_cell BK485.out 1).trans rfl
    have hcz18_2 : w8.cell? ⟨gb485, 2, none⟩ = some (.int .i64 a0_2) := (blk_cell BK485.out 2).trans rfl
    have hfz18_0 := blk_frozen BK485.out 0
    have hfz18_1 := blk_frozen BK485.out 1
    have hfz18_2 := blk_frozen BK485.out 2
    go_wp2_with (first | ((with_reducible refine gate_callee (f := 13) rfl ?_); refine goesL_ (some 14) rfl rfl Try.func13 (by kernel_rfl) rfl #[.agg #[.int .i64 a0_0, .int .i64 a0_1, .int .i64 a0_2]] rfl (by (try simp only [List.map_toArray, List.map_cons, List.map_nil]); first | done | rfl | (simp only [List.length_drop, List.length_take]; rfl)) ?_; (with_reducible refine (leatlaw11_fit.calls k a0_0 a0_1 a0_2 false _ A9.out).mono ?_); rintro e w19 ⟨rfl, hb⟩; refine ⟨_, rfl, ?_⟩; have n0_ := Aside0.mk (blk_below (g := gb485) (o := .cells #[.int .i64 a0_0, .int .i64 a0_1, .int .i64 a0_2] 23 (0, 0)) (by (with_reducible repeat (first | refine blk_drewN ?_ _ | refine blk_drew ?_ | refine blk_alloc ?_ _)); exact BK485.out) hb); have n1_ := Aside0.mk (below_step (by repeat (first | (with_reducible first | exact HB.out | apply below_alloc | apply pw_below_drewN | apply below_drew1 | refine below_set ?_ GE485.out) | exact HB.out)) hb); clear BK485; clear HB; have BK485 := n0_; have HB := n1_; clear n0_ n1_; (try clear hb); (try clear hb2); (try clear hk); (try clear hi)))
    go_meet
    case rel => exact ⟨_, (true), (by first | rfl | (simp; done) | (simp [*]; done)), H', ⟨by first | omega | exact Nat.le_refl _⟩, ⟨by (with_reducible repeat (first | refine blk_drewN ?_ _ | refine blk_drew ?_ | refine blk_alloc ?_ _)); exact BK485.out⟩, ⟨by repeat (first | (with_reducible first | exact HB.out | apply below_alloc | apply pw_below_drewN | apply below_drew1 | refine below_set ?_ GE485.out) | exact HB.out)⟩⟩
  case rest =>
   clear HC6
   try clear c1; try clear c2; try clear p2; try clear c5; try clear c9; try clear c10; try clear c11; try clear c11b0; try clear c11b1; try clear c12; try clear c13; try clear hcz12_0; try clear hcz12_1; try clear hcz12_2; try clear hcz15_0; try clear hcz15_1; try clear hcz15_2; try clear hcz18_0; try clear hcz18_1; try clear hcz18_2; try clear hfz12_0; try clear hfz12_1; try clear hfz12_2; try clear hfz15_0; try clear hfz15_1; try clear hfz15_2; try clear hfz18_0; try clear hfz18_1; try clear hfz18_2
   obtain ⟨kq, x25_5, rfl, HA, HJ5, BK485, HB⟩ := hcut
   cases kq with
   | zero => exact absurd HA.out (by simp [leatlaw11_WindowKeys.j0])
   | succ kj5 =>
    have H := HA.out
    clear HA
    simp only [leatlaw11_WindowKeys.j0] at H
    by_cases c20 : x25_5 = true
    ·subst c20
     have H1 : (some true) = some r := by rw [if_pos rfl] at H; exact H
     clear H
     have H := H1
     clear H1
     obtain rfl := Option.some.inj H
     go_wp2
     go_ret
     exact ⟨by first | rfl | (simp [errW_none, errW_some] <;> rfl) | (simp [*, errW_none, errW_some] <;> rfl), by repeat (first | (with_reducible first | exact HB.out | apply below_alloc | apply pw_below_drewN | apply below_drew1 | refine below_set ?_ GE485.out) | exact HB.out)⟩
    ·replace c20 := Bool.eq_false_iff.mpr c20
     subst c20
     have H1 : (leatlaw11_WindowKeys.l0 kj5 a1 l2 ([] : List (S46)) ([] : List (S46)) ([] : List (S46)) 0 a0_0 a0_1 a0_2) = some r := by rw [if_neg (show ¬ (false = true) by decide)] at H; exact H
     clear H
     have H := H1
     clear H1
     have H' := Aside0.mk H
     clear H
     go_wp2
     go_loopg [7, 8, 9, 10] kj5 (fun kq v7 v8 v9 v10 w' => ∃ (x7_2 : List (S46)) (x8_2 : List (S46)) (x9_2 : List (S46)) (x10_2 : Int), v10 = .int .i64 x10_2 ∧ Aside0 (leatlaw11_WindowKeys.l0 kq a1 l2 x7_2 x8_2 x9_2 x10_2 a0_0 a0_1 a0_2 = some r) ∧ Aside0 (kq ≤ kj5) ∧ Aside0 (Kd.R k46 46 w' w.heap.size (fun k_ => some k_ ≠ (v8 : Value).ownBlock ∧ some k_ ≠ (v9 : Value).ownBlock) v7 x7_2) ∧ Aside0 (Kd.R k46 46 w' w.heap.size (fun k_ => some k_ ≠ (v7 : Value).ownBlock ∧ some k_ ≠ (v9 : Value).ownBlock) v8 x8_2) ∧ Aside0 (Kd.R k46 46 w' w.heap.size (fun k_ => some k_ ≠ (v7 : Value).ownBlock ∧ some k_ ≠ (v8 : Value).ownBlock) v9 x9_2) ∧ Aside0 (w'.heap[gb485]? = some (.cells #[.int .i64 a0_0, .int .i64 a0_1, .int .i64 a0_2] 23 (0, 0))) ∧ Aside0 (Below w.heap.size w w'))
     case atStart => exact ⟨(([] : List (S46))), (([] : List (S46))), (([] : List (S46))), (0), (by first | rfl | (simp; done) | (simp [*]; done)), H', ⟨Nat.le_refl _⟩, ⟨by first | exact Kd.R_nil _ _ _ _ _ | exact Kd.N_nil _ _ _ _ _ | exact Kd.V_nil _ _ _ _ _ | exact Kd.Q_nil _ _ _ _ _ | exact Kd.S_nil _ _ _ _ _⟩, ⟨by first | exact Kd.R_nil _ _ _ _ _ | exact Kd.N_nil _ _ _ _ _ | exact Kd.V_nil _ _ _ _ _ | exact Kd.Q_nil _ _ _ _ _ | exact Kd.S_nil _ _ _ _ _⟩, ⟨by first | exact Kd.R_nil _ _ _ _ _ | exact Kd.N_nil _ _ _ _ _ | exact Kd.V_nil _ _ _ _ _ | exact Kd.Q_nil _ _ _ _ _ | exact Kd.S_nil _ _ _ _ _⟩, ⟨by (with_reducible repeat (first | refine blk_drewN ?_ _ | refine blk_drew ?_ | refine blk_alloc ?_ _)); exact BK485.out⟩, ⟨by repeat (first | (with_reducible first | exact HB.out | apply below_alloc | apply pw_below_drewN | apply below_drew1 | refine below_set ?_ GE485.out) | exact HB.out)⟩⟩
     case round =>
      clear H'
      try clear c1; try clear c2; try clear p2; try clear c5; try clear c9; try clear c10; try clear c11; try clear c11b0; try clear c11b1; try clear c12; try clear c13; try clear c20; try clear hcz12_0; try clear hcz12_1; try clear hcz12_2; try clear hcz15_0; try clear hcz15_1; try clear hcz15_2; try clear hcz18_0; try clear hcz18_1; try clear hcz18_2; try clear hfz12_0; try clear hfz12_1; try clear hfz12_2; try clear hfz15_0; try clear hfz15_1; try clear hfz15_2; try clear hfz18_0; try clear hfz18_1; try clear hfz18_2; try clear p2
      obtain ⟨x7_2, x8_2, x9_2, x10_2, rfl, HA, HK2, HO_7, HO_8, HO_9, BK485, HB⟩ := hrel
      cases gk with
      | zero => exact absurd HA.out (by simp [leatlaw11_WindowKeys.l0])
      | succ k2 =>
       have H := HA.out
       clear HA
       simp only [leatlaw11_WindowKeys.l0] at H
       by_cases c21 : x10_2 < (l2.length : Int)
       ·rw [if_pos c21] at H
        have c21b0 : decide (x10_2 < (l2.length : Int)) = true := decide_eq_true c21
        clear c21
        by_cases c22 : 0 ≤ x10_2
        ·rw [if_pos c22] at H
         have c22b0 : decide (0 ≤ x10_2) = true := decide_eq_true c22
         clear c22
         replace H := Option.bind_eq_some_iff.mp H
         obtain ⟨t500, A230, H⟩ := H
         replace H : (if t500 = true then ((window_Put.f k2 a0_0 a0_1 a0_2 a1 x7_2 ((rd_T37 l2 x10_2).f0) ((rd_T37 l2 x10_2).f1) ((rd_T37 l2 x10_2).f2)).bind fun t502 => (if (Int.tmod ((rd_T37 l2 x10_2).f0) 2) = 0 then ((window_Put.f k2 a0_0 a0_1 a0_2 a1 x8_2 ((rd_T37 l2 x10_2).f0) ((rd_T37 l2 x10_2).f1) ((rd_T37 l2 x10_2).f2)).bind fun t507 => (leatlaw11_WindowKeys.l0 k2 a1 l2 t502 t507 x9_2 (wrap64 (x10_2 + 1)) a0_0 a0_1 a0_2)) else ((window_Put.f k2 a0_0 a0_1 a0_2 a1 x9_2 ((rd_T37 l2 x10_2).f0) ((rd_T37 l2 x10_2).f1) ((rd_T37 l2 x10_2).f2)).bind fun t511 => (leatlaw11_WindowKeys.l0 k2 a1 l2 t502 x8_2 t511 (wrap64 (x10_2 + 1)) a0_0 a0_1 a0_2)))) else (some true)) = some r := H
         have A23 := Aside0.mk A230
         clear A230
         by_cases c24 : t500 = true
         ·subst c24
          have H1 : ((window_Put.f k2 a0_0 a0_1 a0_2 a1 x7_2 ((rd_T37 l2 x10_2).f0) ((rd_T37 l2 x10_2).f1) ((rd_T37 l2 x10_2).f2)).bind fun t502 => (if (Int.tmod ((rd_T37 l2 x10_2).f0) 2) = 0 then ((window_Put.f k2 a0_0 a0_1 a0_2 a1 x8_2 ((rd_T37 l2 x10_2).f0) ((rd_T37 l2 x10_2).f1) ((rd_T37 l2 x10_2).f2)).bind fun t507 => (leatlaw11_WindowKeys.l0 k2 a1 l2 t502 t507 x9_2 (wrap64 (x10_2 + 1)) a0_0 a0_1 a0_2)) else ((window_Put.f k2 a0_0 a0_1 a0_2 a1 x9_2 ((rd_T37 l2 x10_2).f0) ((rd_T37 l2 x10_2).f1) ((rd_T37 l2 x10_2).f2)).bind fun t511 => (leatlaw11_WindowKeys.l0 k2 a1 l2 t502 x8_2 t511 (wrap64 (x10_2 + 1)) a0_0 a0_1 a0_2)))) = some r := by rw [if_pos rfl] at H; exact H
          clear H
          have H := H1
          clear H1
          replace H := Option.bind_eq_some_iff.mp H
          obtain ⟨t502, A250, H⟩ := H
          replace H : (if (Int.tmod ((rd_T37 l2 x10_2).f0) 2) = 0 then ((window_Put.f k2 a0_0 a0_1 a0_2 a1 x8_2 ((rd_T37 l2 x10_2).f0) ((rd_T37 l2 x10_2).f1) ((rd_T37 l2 x10_2).f2)).bind fun t507 => (leatlaw11_WindowKeys.l0 k2 a1 l2 t502 t507 x9_2 (wrap64 (x10_2 + 1)) a0_0 a0_1 a0_2)) else ((window_Put.f k2 a0_0 a0_1 a0_2 a1 x9_2 ((rd_T37 l2 x10_2).f0) ((rd_T37 l2 x10_2).f1) ((rd_T37 l2 x10_2).f2)).bind fun t511 => (leatlaw11_WindowKeys.l0 k2 a1 l2 t502 x8_2 t511 (wrap64 (x10_2 + 1)) a0_0 a0_1 a0_2))) = some r := H
          have A25 := Aside0.mk A250
          clear A250
          by_cases c26 : (Int.tmod ((rd_T37 l2 x10_2).f0) 2) = 0
          ·rw [if_pos c26] at H
           have c26b0 : ((Int.tmod ((rd_T37 l2 x10_2).f0) 2) == 0) = true := beq_iff_eq.mpr c26
           have c26b1 : ((Int.tmod ((rd_T37 l2 x10_2).f0) 2) != 0) = false := bne_eq_false_iff_eq.mpr c26
           clear c26
           replace H := Option.bind_eq_some_iff.mp H
           obtain ⟨t507, A270, H⟩ := H
           replace H : (leatlaw11_WindowKeys.l0 k2 a1 l2 t502 t507 x9_2 (wrap64 (x10_2 + 1)) a0_0 a0_1 a0_2) = some r := H
           have A27 := Aside0.mk A270
           clear A270
           have H' := Aside0.mk H
           clear H
           have p499 : 0 ≤ (x10_2 : Int) := of_decide_eq_true (by first | (with_reducible assumption) | assumption)
           have q499 : x10_2 < (l2.length : Int) := of_decide_eq_true (by first | (with_reducible assumption) | assumption)
           obtain ⟨ad499, e499, hx499_0, hx499_1, hx499_2⟩ := at_T37 HR2.out x10_2 p499 q499
           cases e499
           replace hx499_0 := (HB.out.cell (World.block_lt_of_cell? w _ hx499_0)).trans hx499_0
           replace hx499_1 := (HB.out.cell (World.block_lt_of_cell? w _ hx499_1)).trans hx499_1
           replace hx499_2 := (HB.out.cell (World.block_lt_of_cell? w _ hx499_2)).trans hx499_2
           replace p499 := eq_true p499
           replace q499 := eq_true q499
           try go_wp2_with (first | ((with_reducible refine gate_callee (f := 14) rfl ?_); refine goesL_ (some 37) rfl rfl Try.func14 (by kernel_rfl) rfl #[.int .i64 ((rd_T37 l2 x10_2).f1)] rfl (by (try simp only [List.map_toArray, List.map_cons, List.map_nil]); first | done | rfl | (simp only [List.length_drop, List.length_take]; rfl)) ?_; (with_reducible refine (leatlaw11_time.calls ((rd_T37 l2 x10_2).f1) true _ A23.out).mono ?_); rintro e w' ⟨rfl, ⟨nd, rfl⟩⟩; refine ⟨_, rfl, ?_⟩))
           (try (rw [drewN_self wr]; generalize hq_ : World.drewN wr _ = wr; have n0_ : Aside0 (Kd.R k46 46 wr w.heap.size (fun k_ => some k_ ≠ (u8 : Value).ownBlock ∧ some k_ ≠ (u9 : Value).ownBlock) u7 x7_2) := ⟨by rw [← hq_]; exact (by (with_reducible repeat (first | apply Kd.R_alloc | apply Kd.R_drewN | apply Kd.R_drew)); exact HO_7.out)⟩; have n1_ : Aside0 (Kd.R k46 46 wr w.heap.size (fun k_ => some k_ ≠ (u7 : Value).ownBlock ∧ some k_ ≠ (u9 : Value).ownBlock) u8 x8_2) := ⟨by rw [← hq_]; exact (by (with_reducible repeat (first | apply Kd.R_alloc | apply Kd.R_drewN | apply Kd.R_drew)); exact HO_8.out)⟩; have n2_ : Aside0 (Kd.R k46 46 wr w.heap.size (fun k_ => some k_ ≠ (u7 : Value).ownBlock ∧ some k_ ≠ (u8 : Value).ownBlock) u9 x9_2) := ⟨by rw [← hq_]; exact (by (with_reducible repeat (first | apply Kd.R_alloc | apply Kd.R_drewN | apply Kd.R_drew)); exact HO_9.out)⟩; have n3_ : Aside0 (wr.heap[gb485]? = some (.cells #[.int .i64 a0_0, .int .i64 a0_1, .int .i64 a0_2] 23 (0, 0))) := ⟨by rw [← hq_]; exact (by (with_reducible repeat (first | refine blk_drewN ?_ _ | refine blk_drew ?_ | refine blk_alloc ?_ _)); exact BK485.out)⟩; have n4_ : Aside0 (Below w.heap.size w wr) := ⟨by rw [← hq_]; exact (by repeat (first | (with_reducible first | exact HB.out | apply below_alloc | apply pw_below_drewN | apply below_drew1 | refine below_set ?_ GE485.out) | exact HB.out))⟩; clear HO_7 HO_8 HO_9 BK485 HB hq_; have HO_7 := n0_; have HO_8 := n1_; have HO_9 := n2_; have BK485 := n3_; have HB := n4_; clear n0_ n1_ n2_ n3_ n4_))
           have n0_ := Aside0.mk (Kd.R_drew HO_7.out)
           have n1_ := Aside0.mk (Kd.R_drew HO_8.out)
           have n2_ := Aside0.mk (Kd.R_drew HO_9.out)
           have n3_ := Aside0.mk (blk_drew BK485.out)
           have n4_ := Aside0.mk (below_drew1 HB.out)
           clear HO_7
           clear HO_8
           clear HO_9
           clear BK485
           clear HB
           have HO_7 := n0_
           have HO_8 := n1_
           have HO_9 := n2_
           have BK485 := n3_
           have HB := n4_
           clear n0_ n1_ n2_ n3_ n4_
           have p501 : 0 ≤ (x10_2 : Int) := of_decide_eq_true (by first | (with_reducible assumption) | assumption)
           have q501 : x10_2 < (l2.length : Int) := of_decide_eq_true (by first | (with_reducible assumption) | assumption)
           obtain ⟨ad501, e501, hx501_0, hx501_1, hx501_2⟩ := at_T37 HR2.out x10_2 p501 q501
           have hw501_2 := hx501_2
           have hw501_1 := hx501_1
           have hw501_0 := hx501_0
           obtain rfl : ad499 = ad501 := (by injection e501)
           replace hx501_0 := (HB.out.cell (World.block_lt_of_cell? w _ hx501_0)).trans hx501_0
           replace hx501_1 := (HB.out.cell (World.block_lt_of_cell? w _ hx501_1)).trans hx501_1
           replace hx501_2 := (HB.out.cell (World.block_lt_of_cell? w _ hx501_2)).trans hx501_2
           replace p501 := eq_true p501
           replace q501 := eq_true q501
           obtain ⟨Ao29, co29, eo29⟩ := Kd.R_slice HO_7.out
           (first | subst eo29 | (injection eo29 with f1_ f2_ f3_; have f4_ := f1_.symm; have f5_ := f3_.symm; clear f1_ f2_ f3_; subst f4_; subst f5_))
           refine start_ (n := 9) (S := fun w' => w'.cell? ⟨gb485, 0, none⟩ = some (.int .i64 a0_0) ∧ w'.cell? ⟨gb485, 1, none⟩ = some (.int .i64 a0_1) ∧ w'.cell? ⟨gb485, 2, none⟩ = some (.int .i64 a0_2) ∧ w'.cell? (ad499.add ((x10_2).toNat * 3)) = some (.int .i64 ((rd_T37 l2 x10_2).f0)) ∧ w'.cell? ⟨(ad499.add ((x10_2).toNat * 3)).block, (ad499.add ((x10_2).toNat * 3)).off + 1, none⟩ = some (.int .i64 ((rd_T37 l2 x10_2).f1)) ∧ w'.cell? ⟨(ad499.add ((x10_2).toNat * 3)).block, (ad499.add ((x10_2).toNat * 3)).off + 2, none⟩ = some (.int .i64 ((rd_T37 l2 x10_2).f2))) (ds := []) #[false, false, false, false, false, false, false, false, false] (by kernel_rfl) rfl rfl ⟨(blk_cell BK485.out 0).trans rfl, (blk_cell BK485.out 1).trans rfl, (blk_cell BK485.out 2).trans rfl, ((HB.out.cell (World.block_lt_of_cell? w _ hw501_0)).trans hw501_0), ((HB.out.cell (World.block_lt_of_cell? w _ hw501_1)).trans hw501_1), ((HB.out.cell (World.block_lt_of_cell? w _ hw501_2)).trans hw501_2)⟩ (fun hHeld => ?_); refine with_tabW leatlaw11_WindowKeys.tab11 leatlaw11_WindowKeys.bits11 (fun HT_ HW_ => ?_)
           generalize wr.drew = w28 at HO_7 HO_8 HO_9 BK485 HB hx501_0 hx501_1 hx501_2 hHeld ⊢
           refine pure_ (i := 1) (N := some 40) (v := ?_) (a' := ?_) #[false, true, false, false, false, false, false, false, false] rfl rfl (any_of HT_.out (by kernel_rfl)) (fun _ _ _ h => h) (Or.inl ⟨by rfl, ?_⟩) ?_ ?_
           rotate_left
           ·intro w'
            go_simp
            with_reducible rfl
           rotate_left
           ·simp only [Act.put, List.setIfInBounds_toArray, List.set_cons_zero, List.set_cons_succ, i64_w, i32_w]
            rfl
           refine pure_ (i := 2) (N := some 41) (v := ?_) (a' := ?_) #[false, true, true, false, false, false, false, false, false] rfl rfl (any_of HT_.out (by kernel_rfl)) (fun _ _ _ h => h) (Or.inl ⟨by rfl, ?_⟩) ?_ ?_
           rotate_left
           ·intro w'
            go_simp
            with_reducible rfl
           rotate_left
           ·simp only [Act.put, List.setIfInBounds_toArray, List.set_cons_zero, List.set_cons_succ, i64_w, i32_w]
            rfl
           refine pure_ (i := 3) (N := some 42) (v := ?_) (a' := ?_) #[false, true, true, true, false, false, false, false, false] rfl rfl (any_of HT_.out (by kernel_rfl)) (fun _ _ _ h => h) (Or.inl ⟨by rfl, ?_⟩) ?_ ?_
           rotate_left
           ·intro w'
            go_simp
            with_reducible rfl
           rotate_left
           ·simp only [Act.put, List.setIfInBounds_toArray, List.set_cons_zero, List.set_cons_succ, i64_w, i32_w]
            rfl
           refine pure_ (i := 4) (N := some 43) (v := ?_) (a' := ?_) #[false, true, true, true, true, false, false, false, false] rfl rfl (any_of HT_.out (by kernel_rfl)) (fun _ _ _ h => h) (Or.inl ⟨by rfl, ?_⟩) ?_ ?_
           rotate_left
           ·intro w'
            go_simp
            with_reducible rfl
           rotate_left
           ·simp only [Act.put, List.setIfInBounds_toArray, List.set_cons_zero, List.set_cons_succ, i64_w, i32_w]
            rfl
           refine pure_ (i := 5) (N := some 44) (v := ?_) (a' := ?_) #[false, true, true, true, true, true, false, false, false] rfl rfl (any_of HT_.out (by kernel_rfl)) (fun _ _ _ h => h) (Or.inl ⟨by rfl, ?_⟩) ?_ ?_
           rotate_left
           ·intro w'
            go_simp
            with_reducible rfl
           rotate_left
           ·simp only [Act.put, List.setIfInBounds_toArray, List.set_cons_zero, List.set_cons_succ, i64_w, i32_w]
            rfl
           refine take_ (i := 0) (N := some 39) (v := ?_) (a' := ?_) #[true, true, true, true, true, true, false, false, false] rfl rfl (take_ofW HT_.out HW_.out (by kernel_rfl)) (fun _ _ _ h => h) (Or.inl ⟨by rfl, ?_⟩) hHeld ?_ ?_
           rotate_left
           ·rintro w' ⟨s0, s1, s2, s3, s4, s5⟩
            go_simp
            with_reducible rfl
           rotate_left
           ·simp only [Act.put, List.setIfInBounds_toArray, List.set_cons_zero, List.set_cons_succ, i64_w, i32_w]
            rfl
           refine take_ (i := 6) (N := some 45) (v := ?_) (a' := ?_) #[true, true, true, true, true, true, true, false, false] rfl rfl (take_ofW HT_.out HW_.out (by kernel_rfl)) (fun _ _ _ h => h) (Or.inl ⟨by rfl, ?_⟩) hHeld ?_ ?_
           rotate_left
           ·rintro w' ⟨s0, s1, s2, s3, s4, s5⟩
            go_simp
            with_reducible rfl
           rotate_left
           ·simp only [Act.put, List.setIfInBounds_toArray, List.set_cons_zero, List.set_cons_succ, i64_w, i32_w]
            rfl
           refine one_ (i := 7) (N := some 46) #[true, true, true, true, true, true, true, true, false] rfl rfl (one_of HT_.out (by kernel_rfl)) (by decide) (fun K hK => ?_)
           refine goes_ Try.func18 (by kernel_rfl) rfl #[.agg #[.int .i64 a0_0, .int .i64 a0_1, .int .i64 a0_2], .int .i64 a1, .slice Ao29 x7_2.length co29, .agg #[.int .i64 ((rd_T37 l2 x10_2).f0), .int .i64 ((rd_T37 l2 x10_2).f1), .int .i64 ((rd_T37 l2 x10_2).f2)]] (by rfl) rfl rfl (by (try simp only [List.map_toArray, List.map_cons, List.map_nil]); first | done | rfl | (simp only [List.length_drop, List.length_take]; rfl)) ?_
           with_reducible refine (window_Put.calls k2 a0_0 a0_1 a0_2 a1 _ _ x7_2 ((rd_T37 l2 x10_2).f0) ((rd_T37 l2 x10_2).f1) ((rd_T37 l2 x10_2).f2) t502 _ ?side1 ?side2 A25.out).mono ?_
           (case side1 => repeat (first | exact (Kd.R_reads' HO_7.out).2.2 | (with_reducible refine Kd.C_alloc ?_ _) | (with_reducible refine Kd.C_drewN ?_ _) | (with_reducible refine Kd.C_drew ?_)))
           (case side2 => exact (Kd.R_reads' HO_7.out).2.1)
           rintro e w30 ⟨v503, rfl, ho0, hb⟩
           refine ⟨_, rfl, ?_⟩
           have n0_ := Aside0.mk (Kd.R_elder' (by (with_reducible repeat (first | apply Kd.R_alloc | apply Kd.R_drewN | apply Kd.R_drew)); exact HO_7.out) (Kd.R_base ho0) hb)
           have n1_ := Aside0.mk (Kd.R_elder' (by (with_reducible repeat (first | apply Kd.R_alloc | apply Kd.R_drewN | apply Kd.R_drew)); exact HO_8.out) (Kd.R_base ho0) hb)
           have n2_ := Aside0.mk (Kd.R_elder' (by (with_reducible repeat (first | apply Kd.R_alloc | apply Kd.R_drewN | apply Kd.R_drew)); exact HO_9.out) (Kd.R_base ho0) hb)
           have n3_ := Aside0.mk (Kd.R_lower (Kd.R_new' (Kd.R_new' (Kd.R_new' ho0 (Kd.R_lt (by (with_reducible repeat (first | apply Kd.R_alloc | apply Kd.R_drewN | apply Kd.R_drew)); exact HO_7.out))) (Kd.R_lt (by (with_reducible repeat (first | apply Kd.R_alloc | apply Kd.R_drewN | apply Kd.R_drew)); exact HO_8.out))) (Kd.R_lt (by (with_reducible repeat (first | apply Kd.R_alloc | apply Kd.R_drewN | apply Kd.R_drew)); exact HO_9.out))) (below_size (by repeat (first | (with_reducible first | exact HB.out | apply below_alloc | apply pw_below_drewN | apply below_drew1 | refine below_set ?_ GE485.out) | exact HB.out))))
           have n4_ := Aside0.mk (blk_below (g := gb485) (o := .cells #[.int .i64 a0_0, .int .i64 a0_1, .int .i64 a0_2] 23 (0, 0)) (by (with_reducible repeat (first | refine blk_drewN ?_ _ | refine blk_drew ?_ | refine blk_alloc ?_ _)); exact BK485.out) hb)
           have n5_ := Aside0.mk (below_step (by repeat (first | (with_reducible first | exact HB.out | apply below_alloc | apply pw_below_drewN | apply below_drew1 | refine below_set ?_ GE485.out) | exact HB.out)) hb)
           clear HO_7
           clear HO_8
           clear HO_9
           clear BK485
           clear HB
           have HO_7 := n0_
           have HO_8 := n1_
           have HO_9 := n2_
           have HO504 := n3_
           have BK485 := n4_
           have HB := n5_
           clear n0_ n1_ n2_ n3_ n4_ n5_
           (try clear hb)
           (try clear hb2)
           (try clear hk)
           (try clear hi)
           (try clear ho0)
           refine hK.out _ _ ⟨(blk_cell BK485.out 0).trans rfl, (blk_cell BK485.out 1).trans rfl, (blk_cell BK485.out 2).trans rfl, ((HB.out.cell (World.block_lt_of_cell? w _ hw501_0)).trans hw501_0), ((HB.out.cell (World.block_lt_of_cell? w _ hw501_1)).trans hw501_1), ((HB.out.cell (World.block_lt_of_cell? w _ hw501_2)).trans hw501_2)⟩ (fun hHeld => ?_)
           clear hK K
           refine norm_ (a' := ?_) ?_ ?_
           rotate_left
           ·show Act.put _ (some 46) _ = _
            simp only [Act.put, List.setIfInBounds_toArray, List.set_cons_zero, List.set_cons_succ, i64_w, i32_w]
            rfl
           refine pure_ (i := 8) (N := some 7) (v := ?_) (a' := ?_) #[true, true, true, true, true, true, true, true, true] rfl rfl (any_of HT_.out (by kernel_rfl)) (fun _ _ _ h => h) (Or.inl ⟨by rfl, ?_⟩) ?_ ?_
           rotate_left
           ·intro w'
            go_simp
            with_reducible rfl
           rotate_left
           ·simp only [Act.put, List.setIfInBounds_toArray, List.set_cons_zero, List.set_cons_succ, i64_w, i32_w]
            rfl
           refine done_ (done_of HT_.out (by kernel_rfl)) ?_
           have p505 : 0 ≤ (x10_2 : Int) := of_decide_eq_true (by first | (with_reducible assumption) | assumption)
           have q505 : x10_2 < (l2.length : Int) := of_decide_eq_true (by first | (with_reducible assumption) | assumption)
           obtain ⟨ad505, e505, hx505_0, hx505_1, hx505_2⟩ := at_T37 HR2.out x10_2 p505 q505
           obtain rfl : ad499 = ad505 := (by injection e505)
           replace hx505_0 := (HB.out.cell (World.block_lt_of_cell? w _ hx505_0)).trans hx505_0
           replace hx505_1 := (HB.out.cell (World.block_lt_of_cell? w _ hx505_1)).trans hx505_1
           replace hx505_2 := (HB.out.cell (World.block_lt_of_cell? w _ hx505_2)).trans hx505_2
           replace p505 := eq_true p505
           replace q505 := eq_true q505
           try go_wp2
           have n0_ := Aside0.mk (Kd.R_drew HO_7.out)
           have n1_ := Aside0.mk (Kd.R_drew HO_8.out)
           have n2_ := Aside0.mk (Kd.R_drew HO_9.out)
           have n3_ := Aside0.mk (Kd.R_drew HO504.out)
           have n4_ := Aside0.mk (blk_drew BK485.out)
           have n5_ := Aside0.mk (below_drew1 HB.out)
           clear HO_7
           clear HO_8
           clear HO_9
           clear HO504
           clear BK485
           clear HB
           have HO_7 := n0_
           have HO_8 := n1_
           have HO_9 := n2_
           have HO504 := n3_
           have BK485 := n4_
           have HB := n5_
           clear n0_ n1_ n2_ n3_ n4_ n5_
           have p506 : 0 ≤ (x10_2 : Int) := of_decide_eq_true (by first | (with_reducible assumption) | assumption)
           have q506 : x10_2 < (l2.length : Int) := of_decide_eq_true (by first | (with_reducible assumption) | assumption)
           obtain ⟨ad506, e506, hx506_0, hx506_1, hx506_2⟩ := at_T37 HR2.out x10_2 p506 q506
           have hw506_2 := hx506_2
           have hw506_1 := hx506_1
           have hw506_0 := hx506_0
           obtain rfl : ad499 = ad506 := (by injection e506)
           replace hx506_0 := (HB.out.cell (World.block_lt_of_cell? w _ hx506_0)).trans hx506_0
           replace hx506_1 := (HB.out.cell (World.block_lt_of_cell? w _ hx506_1)).trans hx506_1
           replace hx506_2 := (HB.out.cell (World.block_lt_of_cell? w _ hx506_2)).trans hx506_2
           replace p506 := eq_true p506
           replace q506 := eq_true q506
           obtain ⟨Ao32, co32, eo32⟩ := Kd.R_slice HO_8.out
           (first | subst eo32 | (injection eo32 with f1_ f2_ f3_; have f4_ := f1_.symm; have f5_ := f3_.symm; clear f1_ f2_ f3_; subst f4_; subst f5_))
           refine start_ (n := 9) (S := fun w' => w'.cell? ⟨gb485, 0, none⟩ = some (.int .i64 a0_0) ∧ w'.cell? ⟨gb485, 1, none⟩ = some (.int .i64 a0_1) ∧ w'.cell? ⟨gb485, 2, none⟩ = some (.int .i64 a0_2) ∧ w'.cell? (ad499.add ((x10_2).toNat * 3)) = some (.int .i64 ((rd_T37 l2 x10_2).f0)) ∧ w'.cell? ⟨(ad499.add ((x10_2).toNat * 3)).block, (ad499.add ((x10_2).toNat * 3)).off + 1, none⟩ = some (.int .i64 ((rd_T37 l2 x10_2).f1)) ∧ w'.cell? ⟨(ad499.add ((x10_2).toNat * 3)).block, (ad499.add ((x10_2).toNat * 3)).off + 2, none⟩ = some (.int .i64 ((rd_T37 l2 x10_2).f2))) (ds := []) #[false, false, false, false, false, false, false, false, false] (by kernel_rfl) rfl rfl ⟨(blk_cell BK485.out 0).trans rfl, (blk_cell BK485.out 1).trans rfl, (blk_cell BK485.out 2).trans rfl, ((HB.out.cell (World.block_lt_of_cell? w _ hw506_0)).trans hw506_0), ((HB.out.cell (World.block_lt_of_cell? w _ hw506_1)).trans hw506_1), ((HB.out.cell (World.block_lt_of_cell? w _ hw506_2)).trans hw506_2)⟩ (fun hHeld => ?_); refine with_tabW leatlaw11_WindowKeys.tab13 leatlaw11_WindowKeys.bits13 (fun HT_ HW_ => ?_)
           generalize w30.drew = w31 at HO_7 HO_8 HO_9 HO504 BK485 HB hx506_0 hx506_1 hx506_2 hHeld ⊢
           refine pure_ (i := 1) (N := some 55) (v := ?_) (a' := ?_) #[false, true, false, false, false, false, false, false, false] rfl rfl (any_of HT_.out (by kernel_rfl)) (fun _ _ _ h => h) (Or.inl ⟨by rfl, ?_⟩) ?_ ?_
           rotate_left
           ·intro w'
            go_simp
            with_reducible rfl
           rotate_left
           ·simp only [Act.put, List.setIfInBounds_toArray, List.set_cons_zero, List.set_cons_succ, i64_w, i32_w]
            rfl
           refine pure_ (i := 2) (N := some 56) (v := ?_) (a' := ?_) #[false, true, true, false, false, false, false, false, false] rfl rfl (any_of HT_.out (by kernel_rfl)) (fun _ _ _ h => h) (Or.inl ⟨by rfl, ?_⟩) ?_ ?_
           rotate_left
           ·intro w'
            go_simp
            with_reducible rfl
           rotate_left
           ·simp only [Act.put, List.setIfInBounds_toArray, List.set_cons_zero, List.set_cons_succ, i64_w, i32_w]
            rfl
           refine pure_ (i := 3) (N := some 57) (v := ?_) (a' := ?_) #[false, true, true, true, false, false, false, false, false] rfl rfl (any_of HT_.out (by kernel_rfl)) (fun _ _ _ h => h) (Or.inl ⟨by rfl, ?_⟩) ?_ ?_
           rotate_left
           ·intro w'
            go_simp
            with_reducible rfl
           rotate_left
           ·simp only [Act.put, List.setIfInBounds_toArray, List.set_cons_zero, List.set_cons_succ, i64_w, i32_w]
            rfl
           refine pure_ (i := 4) (N := some 58) (v := ?_) (a' := ?_) #[false, true, true, true, true, false, false, false, false] rfl rfl (any_of HT_.out (by kernel_rfl)) (fun _ _ _ h => h) (Or.inl ⟨by rfl, ?_⟩) ?_ ?_
           rotate_left
           ·intro w'
            go_simp
            with_reducible rfl
           rotate_left
           ·simp only [Act.put, List.setIfInBounds_toArray, List.set_cons_zero, List.set_cons_succ, i64_w, i32_w]
            rfl
           refine pure_ (i := 5) (N := some 59) (v := ?_) (a' := ?_) #[false, true, true, true, true, true, false, false, false] rfl rfl (any_of HT_.out (by kernel_rfl)) (fun _ _ _ h => h) (Or.inl ⟨by rfl, ?_⟩) ?_ ?_
           rotate_left
           ·intro w'
            go_simp
            with_reducible rfl
           rotate_left
           ·simp only [Act.put, List.setIfInBounds_toArray, List.set_cons_zero, List.set_cons_succ, i64_w, i32_w]
            rfl
           refine take_ (i := 0) (N := some 54) (v := ?_) (a' := ?_) #[true, true, true, true, true, true, false, false, false] rfl rfl (take_ofW HT_.out HW_.out (by kernel_rfl)) (fun _ _ _ h => h) (Or.inl ⟨by rfl, ?_⟩) hHeld ?_ ?_
           rotate_left
           ·rintro w' ⟨s0, s1, s2, s3, s4, s5⟩
            go_simp
            with_reducible rfl
           rotate_left
           ·simp only [Act.put, List.setIfInBounds_toArray, List.set_cons_zero, List.set_cons_succ, i64_w, i32_w]
            rfl
           refine take_ (i := 6) (N := some 60) (v := ?_) (a' := ?_) #[true, true, true, true, true, true, true, false, false] rfl rfl (take_ofW HT_.out HW_.out (by kernel_rfl)) (fun _ _ _ h => h) (Or.inl ⟨by rfl, ?_⟩) hHeld ?_ ?_
           rotate_left
           ·rintro w' ⟨s0, s1, s2, s3, s4, s5⟩
            go_simp
            with_reducible rfl
           rotate_left
           ·simp only [Act.put, List.setIfInBounds_toArray, List.set_cons_zero, List.set_cons_succ, i64_w, i32_w]
            rfl
           refine one_ (i := 7) (N := some 61) #[true, true, true, true, true, true, true, true, false] rfl rfl (one_of HT_.out (by kernel_rfl)) (by decide) (fun K hK => ?_)
           refine goes_ Try.func18 (by kernel_rfl) rfl #[.agg #[.int .i64 a0_0, .int .i64 a0_1, .int .i64 a0_2], .int .i64 a1, .slice Ao32 x8_2.length co32, .agg #[.int .i64 ((rd_T37 l2 x10_2).f0), .int .i64 ((rd_T37 l2 x10_2).f1), .int .i64 ((rd_T37 l2 x10_2).f2)]] (by rfl) rfl rfl (by (try simp only [List.map_toArray, List.map_cons, List.map_nil]); first | done | rfl | (simp only [List.length_drop, List.length_take]; rfl)) ?_
           with_reducible refine (window_Put.calls k2 a0_0 a0_1 a0_2 a1 _ _ x8_2 ((rd_T37 l2 x10_2).f0) ((rd_T37 l2 x10_2).f1) ((rd_T37 l2 x10_2).f2) t507 _ ?side1 ?side2 A27.out).mono ?_
           (case side1 => repeat (first | exact (Kd.R_reads' HO_8.out).2.2 | (with_reducible refine Kd.C_alloc ?_ _) | (with_reducible refine Kd.C_drewN ?_ _) | (with_reducible refine Kd.C_drew ?_)))
           (case side2 => exact (Kd.R_reads' HO_8.out).2.1)
           rintro e w33 ⟨v508, rfl, ho0, hb⟩
           refine ⟨_, rfl, ?_⟩
           have n0_ := Aside0.mk (Kd.R_elder' (by (with_reducible repeat (first | apply Kd.R_alloc | apply Kd.R_drewN | apply Kd.R_drew)); exact HO_7.out) (Kd.R_base ho0) hb)
           have n1_ := Aside0.mk (Kd.R_elder' (by (with_reducible repeat (first | apply Kd.R_alloc | apply Kd.R_drewN | apply Kd.R_drew)); exact HO_8.out) (Kd.R_base ho0) hb)
           have n2_ := Aside0.mk (Kd.R_elder' (by (with_reducible repeat (first | apply Kd.R_alloc | apply Kd.R_drewN | apply Kd.R_drew)); exact HO_9.out) (Kd.R_base ho0) hb)
           have n3_ := Aside0.mk (Kd.R_elder' (by (with_reducible repeat (first | apply Kd.R_alloc | apply Kd.R_drewN | apply Kd.R_drew)); exact HO504.out) (Kd.R_base ho0) hb)
           have n4_ := Aside0.mk (Kd.R_lower (Kd.R_new' (Kd.R_new' (Kd.R_new' (Kd.R_new' ho0 (Kd.R_lt (by (with_reducible repeat (first | apply Kd.R_alloc | apply Kd.R_drewN | apply Kd.R_drew)); exact HO_7.out))) (Kd.R_lt (by (with_reducible repeat (first | apply Kd.R_alloc | apply Kd.R_drewN | apply Kd.R_drew)); exact HO_8.out))) (Kd.R_lt (by (with_reducible repeat (first | apply Kd.R_alloc | apply Kd.R_drewN | apply Kd.R_drew)); exact HO_9.out))) (Kd.R_lt (by (with_reducible repeat (first | apply Kd.R_alloc | apply Kd.R_drewN | apply Kd.R_drew)); exact HO504.out))) (below_size (by repeat (first | (with_reducible first | exact HB.out | apply below_alloc | apply pw_below_drewN | apply below_drew1 | refine below_set ?_ GE485.out) | exact HB.out))))
           have n5_ := Aside0.mk (blk_below (g := gb485) (o := .cells #[.int .i64 a0_0, .int .i64 a0_1, .int .i64 a0_2] 23 (0, 0)) (by (with_reducible repeat (first | refine blk_drewN ?_ _ | refine blk_drew ?_ | refine blk_alloc ?_ _)); exact BK485.out) hb)
           have n6_ := Aside0.mk (below_step (by repeat (first | (with_reducible first | exact HB.out | apply below_alloc | apply pw_below_drewN | apply below_drew1 | refine below_set ?_ GE485.out) | exact HB.out)) hb)
           clear HO_7
           clear HO_8
           clear HO_9
           clear HO504
           clear BK485
           clear HB
           have HO_7 := n0_
           have HO_8 := n1_
           have HO_9 := n2_
           have HO504 := n3_
           have HO509 := n4_
           have BK485 := n5_
           have HB := n6_
           clear n0_ n1_ n2_ n3_ n4_ n5_ n6_
           (try clear hb)
           (try clear hb2)
           (try clear hk)
           (try clear hi)
           (try clear ho0)
           refine hK.out _ _ ⟨(blk_cell BK485.out 0).trans rfl, (blk_cell BK485.out 1).trans rfl, (blk_cell BK485.out 2).trans rfl, ((HB.out.cell (World.block_lt_of_cell? w _ hw506_0)).trans hw506_0), ((HB.out.cell (World.block_lt_of_cell? w _ hw506_1)).trans hw506_1), ((HB.out.cell (World.block_lt_of_cell? w _ hw506_2)).trans hw506_2)⟩ (fun hHeld => ?_)
           clear hK K
           refine norm_ (a' := ?_) ?_ ?_
           rotate_left
           ·show Act.put _ (some 61) _ = _
            simp only [Act.put, List.setIfInBounds_toArray, List.set_cons_zero, List.set_cons_succ, i64_w, i32_w]
            rfl
           refine pure_ (i := 8) (N := some 8) (v := ?_) (a' := ?_) #[true, true, true, true, true, true, true, true, true] rfl rfl (any_of HT_.out (by kernel_rfl)) (fun _ _ _ h => h) (Or.inl ⟨by rfl, ?_⟩) ?_ ?_
           rotate_left
           ·intro w'
            go_simp
            with_reducible rfl
           rotate_left
           ·simp only [Act.put, List.setIfInBounds_toArray, List.set_cons_zero, List.set_cons_succ, i64_w, i32_w]
            rfl
           refine done_ (done_of HT_.out (by kernel_rfl)) ?_
           try go_wp2
           go_roundg k2
           case measure => have := HJ5.out; have := HK2.out; omega
           case rel => exact ⟨(t502), (t507), (x9_2), (wrap64 (x10_2 + 1)), (by first | rfl | (simp; done) | (simp [*]; done)), H', ⟨by have := HJ5.out; have := HK2.out; omega⟩, ⟨by (with_reducible repeat (first | apply Kd.R_alloc | apply Kd.R_drewN | apply Kd.R_drew)); exact Kd.R_mono HO504.out (fun _ hk => ⟨hk.2, hk.1.2⟩)⟩, ⟨by (with_reducible repeat (first | apply Kd.R_alloc | apply Kd.R_drewN | apply Kd.R_drew)); exact Kd.R_mono HO509.out (fun _ hk => ⟨hk.2, hk.1.2⟩)⟩, ⟨by (with_reducible repeat (first | apply Kd.R_alloc | apply Kd.R_drewN | apply Kd.R_drew)); exact Kd.R_mono HO_9.out (fun _ hk => ⟨hk.1.2, hk.2⟩)⟩, ⟨by (with_reducible repeat (first | refine blk_drewN ?_ _ | refine blk_drew ?_ | refine blk_alloc ?_ _)); exact BK485.out⟩, ⟨by repeat (first | (with_reducible first | exact HB.out | apply below_alloc | apply pw_below_drewN | apply below_drew1 | refine below_set ?_ GE485.out) | exact HB.out)⟩⟩
          ·rw [if_neg c26] at H
           have c26b0 : ((Int.tmod ((rd_T37 l2 x10_2).f0) 2) == 0) = false := beq_eq_false_iff_ne.mpr c26
           have c26b1 : ((Int.tmod ((rd_T37 l2 x10_2).f0) 2) != 0) = true := bne_iff_ne.mpr c26
           replace H := Option.bind_eq_some_iff.mp H
           obtain ⟨t511, A340, H⟩ := H
           replace H : (leatlaw11_WindowKeys.l0 k2 a1 l2 t502 x8_2 t511 (wrap64 (x10_2 + 1)) a0_0 a0_1 a0_2) = some r := H
           have A34 := Aside0.mk A340
           clear A340
           have H' := Aside0.mk H
           clear H
           have p499 : 0 ≤ (x10_2 : Int) := of_decide_eq_true (by first | (with_reducible assumption) | assumption)
           have q499 : x10_2 < (l2.length : Int) := of_decide_eq_true (by first | (with_reducible assumption) | assumption)
           obtain ⟨ad499, e499, hx499_0, hx499_1, hx499_2⟩ := at_T37 HR2.out x10_2 p499 q499
           cases e499
           replace hx499_0 := (HB.out.cell (World.block_lt_of_cell? w _ hx499_0)).trans hx499_0
           replace hx499_1 := (HB.out.cell (World.block_lt_of_cell? w _ hx499_1)).trans hx499_1
           replace hx499_2 := (HB.out.cell (World.block_lt_of_cell? w _ hx499_2)).trans hx499_2
           replace p499 := eq_true p499
           replace q499 := eq_true q499
           try go_wp2_with (first | ((with_reducible refine gate_callee (f := 14) rfl ?_); refine goesL_ (some 37) rfl rfl Try.func14 (by kernel_rfl) rfl #[.int .i64 ((rd_T37 l2 x10_2).f1)] rfl (by (try simp only [List.map_toArray, List.map_cons, List.map_nil]); first | done | rfl | (simp only [List.length_drop, List.length_take]; rfl)) ?_; (with_reducible refine (leatlaw11_time.calls ((rd_T37 l2 x10_2).f1) true _ A23.out).mono ?_); rintro e w' ⟨rfl, ⟨nd, rfl⟩⟩; refine ⟨_, rfl, ?_⟩))
           (try (rw [drewN_self wr]; generalize hq_ : World.drewN wr _ = wr; have n0_ : Aside0 (Kd.R k46 46 wr w.heap.size (fun k_ => some k_ ≠ (u8 : Value).ownBlock ∧ some k_ ≠ (u9 : Value).ownBlock) u7 x7_2) := ⟨by rw [← hq_]; exact (by (with_reducible repeat (first | apply Kd.R_alloc | apply Kd.R_drewN | apply Kd.R_drew)); exact HO_7.out)⟩; have n1_ : Aside0 (Kd.R k46 46 wr w.heap.size (fun k_ => some k_ ≠ (u7 : Value).ownBlock ∧ some k_ ≠ (u9 : Value).ownBlock) u8 x8_2) := ⟨by rw [← hq_]; exact (by (with_reducible repeat (first | apply Kd.R_alloc | apply Kd.R_drewN | apply Kd.R_drew)); exact HO_8.out)⟩; have n2_ : Aside0 (Kd.R k46 46 wr w.heap.size (fun k_ => some k_ ≠ (u7 : Value).ownBlock ∧ some k_ ≠ (u8 : Value).ownBlock) u9 x9_2) := ⟨by rw [← hq_]; exact (by (with_reducible repeat (first | apply Kd.R_alloc | apply Kd.R_drewN | apply Kd.R_drew)); exact HO_9.out)⟩; have n3_ : Aside0 (wr.heap[gb485]? = some (.cells #[.int .i64 a0_0, .int .i64 a0_1, .int .i64 a0_2] 23 (0, 0))) := ⟨by rw [← hq_]; exact (by (with_reducible repeat (first | refine blk_drewN ?_ _ | refine blk_drew ?_ | refine blk_alloc ?_ _)); exact BK485.out)⟩; have n4_ : Aside0 (Below w.heap.size w wr) := ⟨by rw [← hq_]; exact (by repeat (first | (with_reducible first | exact HB.out | apply below_alloc | apply pw_below_drewN | apply below_drew1 | refine below_set ?_ GE485.out) | exact HB.out))⟩; clear HO_7 HO_8 HO_9 BK485 HB hq_; have HO_7 := n0_; have HO_8 := n1_; have HO_9 := n2_; have BK485 := n3_; have HB := n4_; clear n0_ n1_ n2_ n3_ n4_))
           have n0_ := Aside0.mk (Kd.R_drew HO_7.out)
           have n1_ := Aside0.mk (Kd.R_drew HO_8.out)
           have n2_ := Aside0.mk (Kd.R_drew HO_9.out)
           have n3_ := Aside0.mk (blk_drew BK485.out)
           have n4_ := Aside0.mk (below_drew1 HB.out)
           clear HO_7
           clear HO_8
           clear HO_9
           clear BK485
           clear HB
           have HO_7 := n0_
           have HO_8 := n1_
           have HO_9 := n2_
           have BK485 := n3_
           have HB := n4_
           clear n0_ n1_ n2_ n3_ n4_
           have p501 : 0 ≤ (x10_2 : Int) := of_decide_eq_true (by first | (with_reducible assumption) | assumption)
           have q501 : x10_2 < (l2.length : Int) := of_decide_eq_true (by first | (with_reducible assumption) | assumption)
           obtain ⟨ad501, e501, hx501_0, hx501_1, hx501_2⟩ := at_T37 HR2.out x10_2 p501 q501
           have hw501_2 := hx501_2
           have hw501_1 := hx501_1
           have hw501_0 := hx501_0
           obtain rfl : ad499 = ad501 := (by injection e501)
           replace hx501_0 := (HB.out.cell (World.block_lt_of_cell? w _ hx501_0)).trans hx501_0
           replace hx501_1 := (HB.out.cell (World.block_lt_of_cell? w _ hx501_1)).trans hx501_1
           replace hx501_2 := (HB.out.cell (World.block_lt_of_cell? w _ hx501_2)).trans hx501_2
           replace p501 := eq_true p501
           replace q501 := eq_true q501
           obtain ⟨Ao36, co36, eo36⟩ := Kd.R_slice HO_7.out
           (first | subst eo36 | (injection eo36 with f1_ f2_ f3_; have f4_ := f1_.symm; have f5_ := f3_.symm; clear f1_ f2_ f3_; subst f4_; subst f5_))
           refine start_ (n := 9) (S := fun w' => w'.cell? ⟨gb485, 0, none⟩ = some (.int .i64 a0_0) ∧ w'.cell? ⟨gb485, 1, none⟩ = some (.int .i64 a0_1) ∧ w'.cell? ⟨gb485, 2, none⟩ = some (.int .i64 a0_2) ∧ w'.cell? (ad499.add ((x10_2).toNat * 3)) = some (.int .i64 ((rd_T37 l2 x10_2).f0)) ∧ w'.cell? ⟨(ad499.add ((x10_2).toNat * 3)).block, (ad499.add ((x10_2).toNat * 3)).off + 1, none⟩ = some (.int .i64 ((rd_T37 l2 x10_2).f1)) ∧ w'.cell? ⟨(ad499.add ((x10_2).toNat * 3)).block, (ad499.add ((x10_2).toNat * 3)).off + 2, none⟩ = some (.int .i64 ((rd_T37 l2 x10_2).f2))) (ds := []) #[false, false, false, false, false, false, false, false, false] (by kernel_rfl) rfl rfl ⟨(blk_cell BK485.out 0).trans rfl, (blk_cell BK485.out 1).trans rfl, (blk_cell BK485.out 2).trans rfl, ((HB.out.cell (World.block_lt_of_cell? w _ hw501_0)).trans hw501_0), ((HB.out.cell (World.block_lt_of_cell? w _ hw501_1)).trans hw501_1), ((HB.out.cell (World.block_lt_of_cell? w _ hw501_2)).trans hw501_2)⟩ (fun hHeld => ?_); refine with_tabW leatlaw11_WindowKeys.tab11 leatlaw11_WindowKeys.bits11 (fun HT_ HW_ => ?_)
           generalize wr.drew = w35 at HO_7 HO_8 HO_9 BK485 HB hx501_0 hx501_1 hx501_2 hHeld ⊢
           refine pure_ (i := 1) (N := some 40) (v := ?_) (a' := ?_) #[false, true, false, false, false, false, false, false, false] rfl rfl (any_of HT_.out (by kernel_rfl)) (fun _ _ _ h => h) (Or.inl ⟨by rfl, ?_⟩) ?_ ?_
           rotate_left
           ·intro w'
            go_simp
            with_reducible rfl
           rotate_left
           ·simp only [Act.put, List.setIfInBounds_toArray, List.set_cons_zero, List.set_cons_succ, i64_w, i32_w]
            rfl
           refine pure_ (i := 2) (N := some 41) (v := ?_) (a' := ?_) #[false, true, true, false, false, false, false, false, false] rfl rfl (any_of HT_.out (by kernel_rfl)) (fun _ _ _ h => h) (Or.inl ⟨by rfl, ?_⟩) ?_ ?_
           rotate_left
           ·intro w'
            go_simp
            with_reducible rfl
           rotate_left
           ·simp only [Act.put, List.setIfInBounds_toArray, List.set_cons_zero, List.set_cons_succ, i64_w, i32_w]
            rfl
           refine pure_ (i := 3) (N := some 42) (v := ?_) (a' := ?_) #[false, true, true, true, false, false, false, false, false] rfl rfl (any_of HT_.out (by kernel_rfl)) (fun _ _ _ h => h) (Or.inl ⟨by rfl, ?_⟩) ?_ ?_
           rotate_left
           ·intro w'
            go_simp
            with_reducible rfl
           rotate_left
           ·simp only [Act.put, List.setIfInBounds_toArray, List.set_cons_zero, List.set_cons_succ, i64_w, i32_w]
            rfl
           refine pure_ (i := 4) (N := some 43) (v := ?_) (a' := ?_) #[false, true, true, true, true, false, false, false, false] rfl rfl (any_of HT_.out (by kernel_rfl)) (fun _ _ _ h => h) (Or.inl ⟨by rfl, ?_⟩) ?_ ?_
           rotate_left
           ·intro w'
            go_simp
            with_reducible rfl
           rotate_left
           ·simp only [Act.put, List.setIfInBounds_toArray, List.set_cons_zero, List.set_cons_succ, i64_w, i32_w]
            rfl
           refine pure_ (i := 5) (N := some 44) (v := ?_) (a' := ?_) #[false, true, true, true, true, true, false, false, false] rfl rfl (any_of HT_.out (by kernel_rfl)) (fun _ _ _ h => h) (Or.inl ⟨by rfl, ?_⟩) ?_ ?_
           rotate_left
           ·intro w'
            go_simp
            with_reducible rfl
           rotate_left
           ·simp only [Act.put, List.setIfInBounds_toArray, List.set_cons_zero, List.set_cons_succ, i64_w, i32_w]
            rfl
           refine take_ (i := 0) (N := some 39) (v := ?_) (a' := ?_) #[true, true, true, true, true, true, false, false, false] rfl rfl (take_ofW HT_.out HW_.out (by kernel_rfl)) (fun _ _ _ h => h) (Or.inl ⟨by rfl, ?_⟩) hHeld ?_ ?_
           rotate_left
           ·rintro w' ⟨s0, s1, s2, s3, s4, s5⟩
            go_simp
            with_reducible rfl
           rotate_left
           ·simp only [Act.put, List.setIfInBounds_toArray, List.set_cons_zero, List.set_cons_succ, i64_w, i32_w]
            rfl
           refine take_ (i := 6) (N := some 45) (v := ?_) (a' := ?_) #[true, true, true, true, true, true, true, false, false] rfl rfl (take_ofW HT_.out HW_.out (by kernel_rfl)) (fun _ _ _ h => h) (Or.inl ⟨by rfl, ?_⟩) hHeld ?_ ?_
           rotate_left
           ·rintro w' ⟨s0, s1, s2, s3, s4, s5⟩
            go_simp
            with_reducible rfl
           rotate_left
           ·simp only [Act.put, List.setIfInBounds_toArray, List.set_cons_zero, List.set_cons_succ, i64_w, i32_w]
            rfl
           refine one_ (i := 7) (N := some 46) #[true, true, true, true, true, true, true, true, false] rfl rfl (one_of HT_.out (by kernel_rfl)) (by decide) (fun K hK => ?_)
           refine goes_ Try.func18 (by kernel_rfl) rfl #[.agg #[.int .i64 a0_0, .int .i64 a0_1, .int .i64 a0_2], .int .i64 a1, .slice Ao36 x7_2.length co36, .agg #[.int .i64 ((rd_T37 l2 x10_2).f0), .int .i64 ((rd_T37 l2 x10_2).f1), .int .i64 ((rd_T37 l2 x10_2).f2)]] (by rfl) rfl rfl (by (try simp only [List.map_toArray, List.map_cons, List.map_nil]); first | done | rfl | (simp only [List.length_drop, List.length_take]; rfl)) ?_
           with_reducible refine (window_Put.calls k2 a0_0 a0_1 a0_2 a1 _ _ x7_2 ((rd_T37 l2 x10_2).f0) ((rd_T37 l2 x10_2).f1) ((rd_T37 l2 x10_2).f2) t502 _ ?side1 ?side2 A25.out).mono ?_
           (case side1 => repeat (first | exact (Kd.R_reads' HO_7.out).2.2 | (with_reducible refine Kd.C_alloc ?_ _) | (with_reducible refine Kd.C_drewN ?_ _) | (with_reducible refine Kd.C_drew ?_)))
           (case side2 => exact (Kd.R_reads' HO_7.out).2.1)
           rintro e w37 ⟨v503, rfl, ho0, hb⟩
           refine ⟨_, rfl, ?_⟩
           have n0_ := Aside0.mk (Kd.R_elder' (by (with_reducible repeat (first | apply Kd.R_alloc | apply Kd.R_drewN | apply Kd.R_drew)); exact HO_7.out) (Kd.R_base ho0) hb)
           have n1_ := Aside0.mk (Kd.R_elder' (by (with_reducible repeat (first | apply Kd.R_alloc | apply Kd.R_drewN | apply Kd.R_drew)); exact HO_8.out) (Kd.R_base ho0) hb)
           have n2_ := Aside0.mk (Kd.R_elder' (by (with_reducible repeat (first | apply Kd.R_alloc | apply Kd.R_drewN | apply Kd.R_drew)); exact HO_9.out) (Kd.R_base ho0) hb)
           have n3_ := Aside0.mk (Kd.R_lower (Kd.R_new' (Kd.R_new' (Kd.R_new' ho0 (Kd.R_lt (by (with_reducible repeat (first | apply Kd.R_alloc | apply Kd.R_drewN | apply Kd.R_drew)); exact HO_7.out))) (Kd.R_lt (by (with_reducible repeat (first | apply Kd.R_alloc | apply Kd.R_drewN | apply Kd.R_drew)); exact HO_8.out))) (Kd.R_lt (by (with_reducible repeat (first | apply Kd.R_alloc | apply Kd.R_drewN | apply Kd.R_drew)); exact HO_9.out))) (below_size (by repeat (first | (with_reducible first | exact HB.out | apply below_alloc | apply pw_below_drewN | apply below_drew1 | refine below_set ?_ GE485.out) | exact HB.out))))
           have n4_ := Aside0.mk (blk_below (g := gb485) (o := .cells #[.int .i64 a0_0, .int .i64 a0_1, .int .i64 a0_2] 23 (0, 0)) (by (with_reducible repeat (first | refine blk_drewN ?_ _ | refine blk_drew ?_ | refine blk_alloc ?_ _)); exact BK485.out) hb)
           have n5_ := Aside0.mk (below_step (by repeat (first | (with_reducible first | exact HB.out | apply below_alloc | apply pw_below_drewN | apply below_drew1 | refine below_set ?_ GE485.out) | exact HB.out)) hb)
           clear HO_7
           clear HO_8
           clear HO_9
           clear BK485
           clear HB
           have HO_7 := n0_
           have HO_8 := n1_
           have HO_9 := n2_
           have HO504 := n3_
           have BK485 := n4_
           have HB := n5_
           clear n0_ n1_ n2_ n3_ n4_ n5_
           (try clear hb)
           (try clear hb2)
           (try clear hk)
           (try clear hi)
           (try clear ho0)
           refine hK.out _ _ ⟨(blk_cell BK485.out 0).trans rfl, (blk_cell BK485.out 1).trans rfl, (blk_cell BK485.out 2).trans rfl, ((HB.out.cell (World.block_lt_of_cell? w _ hw501_0)).trans hw501_0), ((HB.out.cell (World.block_lt_of_cell? w _ hw501_1)).trans hw501_1), ((HB.out.cell (World.block_lt_of_cell? w _ hw501_2)).trans hw501_2)⟩ (fun hHeld => ?_)
           clear hK K
           refine norm_ (a' := ?_) ?_ ?_
           rotate_left
           ·show Act.put _ (some 46) _ = _
            simp only [Act.put, List.setIfInBounds_toArray, List.set_cons_zero, List.set_cons_succ, i64_w, i32_w]
            rfl
           refine pure_ (i := 8) (N := some 7) (v := ?_) (a' := ?_) #[true, true, true, true, true, true, true, true, true] rfl rfl (any_of HT_.out (by kernel_rfl)) (fun _ _ _ h => h) (Or.inl ⟨by rfl, ?_⟩) ?_ ?_
           rotate_left
           ·intro w'
            go_simp
            with_reducible rfl
           rotate_left
           ·simp only [Act.put, List.setIfInBounds_toArray, List.set_cons_zero, List.set_cons_succ, i64_w, i32_w]
            rfl
           refine done_ (done_of HT_.out (by kernel_rfl)) ?_
           have p505 : 0 ≤ (x10_2 : Int) := of_decide_eq_true (by first | (with_reducible assumption) | assumption)
           have q505 : x10_2 < (l2.length : Int) := of_decide_eq_true (by first | (with_reducible assumption) | assumption)
           obtain ⟨ad505, e505, hx505_0, hx505_1, hx505_2⟩ := at_T37 HR2.out x10_2 p505 q505
           obtain rfl : ad499 = ad505 := (by injection e505)
           replace hx505_0 := (HB.out.cell (World.block_lt_of_cell? w _ hx505_0)).trans hx505_0
           replace hx505_1 := (HB.out.cell (World.block_lt_of_cell? w _ hx505_1)).trans hx505_1
           replace hx505_2 := (HB.out.cell (World.block_lt_of_cell? w _ hx505_2)).trans hx505_2
           replace p505 := eq_true p505
           replace q505 := eq_true q505
           try go_wp2
           have n0_ := Aside0.mk (Kd.R_drew HO_7.out)
           have n1_ := Aside0.mk (Kd.R_drew HO_8.out)
           have n2_ := Aside0.mk (Kd.R_drew HO_9.out)
           have n3_ := Aside0.mk (Kd.R_drew HO504.out)
           have n4_ := Aside0.mk (blk_drew BK485.out)
           have n5_ := Aside0.mk (below_drew1 HB.out)
           clear HO_7
           clear HO_8
           clear HO_9
           clear HO504
           clear BK485
           clear HB
           have HO_7 := n0_
           have HO_8 := n1_
           have HO_9 := n2_
           have HO504 := n3_
           have BK485 := n4_
           have HB := n5_
           clear n0_ n1_ n2_ n3_ n4_ n5_
           have p510 : 0 ≤ (x10_2 : Int) := of_decide_eq_true (by first | (with_reducible assumption) | assumption)
           have q510 : x10_2 < (l2.length : Int) := of_decide_eq_true (by first | (with_reducible assumption) | assumption)
           obtain ⟨ad510, e510, hx510_0, hx510_1, hx510_2⟩ := at_T37 HR2.out x10_2 p510 q510
           have hw510_2 := hx510_2
           have hw510_1 := hx510_1
           have hw510_0 := hx510_0
           obtain rfl : ad499 = ad510 := (by injection e510)
           replace hx510_0 := (HB.out.cell (World.block_lt_of_cell? w _ hx510_0)).trans hx510_0
           replace hx510_1 := (HB.out.cell (World.block_lt_of_cell? w _ hx510_1)).trans hx510_1
           replace hx510_2 := (HB.out.cell (World.block_lt_of_cell? w _ hx510_2)).trans hx510_2
           replace p510 := eq_true p510
           replace q510 := eq_true q510
           obtain ⟨Ao39, co39, eo39⟩ := Kd.R_slice HO_9.out
           (first | subst eo39 | (injection eo39 with f1_ f2_ f3_; have f4_ := f1_.symm; have f5_ := f3_.symm; clear f1_ f2_ f3_; subst f4_; subst f5_))
           refine start_ (n := 9) (S := fun w' => w'.cell? ⟨gb485, 0, none⟩ = some (.int .i64 a0_0) ∧ w'.cell? ⟨gb485, 1, none⟩ = some (.int .i64 a0_1) ∧ w'.cell? ⟨gb485, 2, none⟩ = some (.int .i64 a0_2) ∧ w'.cell? (ad499.add ((x10_2).toNat * 3)) = some (.int .i64 ((rd_T37 l2 x10_2).f0)) ∧ w'.cell? ⟨(ad499.add ((x10_2).toNat * 3)).block, (ad499.add ((x10_2).toNat * 3)).off + 1, none⟩ = some (.int .i64 ((rd_T37 l2 x10_2).f1)) ∧ w'.cell? ⟨(ad499.add ((x10_2).toNat * 3)).block, (ad499.add ((x10_2).toNat * 3)).off + 2, none⟩ = some (.int .i64 ((rd_T37 l2 x10_2).f2))) (ds := []) #[false, false, false, false, false, false, false, false, false] (by kernel_rfl) rfl rfl ⟨(blk_cell BK485.out 0).trans rfl, (blk_cell BK485.out 1).trans rfl, (blk_cell BK485.out 2).trans rfl, ((HB.out.cell (World.block_lt_of_cell? w _ hw510_0)).trans hw510_0), ((HB.out.cell (World.block_lt_of_cell? w _ hw510_1)).trans hw510_1), ((HB.out.cell (World.block_lt_of_cell? w _ hw510_2)).trans hw510_2)⟩ (fun hHeld => ?_); refine with_tabW leatlaw11_WindowKeys.tab14 leatlaw11_WindowKeys.bits14 (fun HT_ HW_ => ?_)
           generalize w37.drew = w38 at HO_7 HO_8 HO_9 HO504 BK485 HB hx510_0 hx510_1 hx510_2 hHeld ⊢
           refine pure_ (i := 1) (N := some 63) (v := ?_) (a' := ?_) #[false, true, false, false, false, false, false, false, false] rfl rfl (any_of HT_.out (by kernel_rfl)) (fun _ _ _ h => h) (Or.inl ⟨by rfl, ?_⟩) ?_ ?_
           rotate_left
           ·intro w'
            go_simp
            with_reducible rfl
           rotate_left
           ·simp only [Act.put, List.setIfInBounds_toArray, List.set_cons_zero, List.set_cons_succ, i64_w, i32_w]
            rfl
           refine pure_ (i := 2) (N := some 64) (v := ?_) (a' := ?_) #[false, true, true, false, false, false, false, false, false] rfl rfl (any_of HT_.out (by kernel_rfl)) (fun _ _ _ h => h) (Or.inl ⟨by rfl, ?_⟩) ?_ ?_
           rotate_left
           ·intro w'
            go_simp
            with_reducible rfl
           rotate_left
           ·simp only [Act.put, List.setIfInBounds_toArray, List.set_cons_zero, List.set_cons_succ, i64_w, i32_w]
            rfl
           refine pure_ (i := 3) (N := some 65) (v := ?_) (a' := ?_) #[false, true, true, true, false, false, false, false, false] rfl rfl (any_of HT_.out (by kernel_rfl)) (fun _ _ _ h => h) (Or.inl ⟨by rfl, ?_⟩) ?_ ?_
           rotate_left
           ·intro w'
            go_simp
            with_reducible rfl
           rotate_left
           ·simp only [Act.put, List.setIfInBounds_toArray, List.set_cons_zero, List.set_cons_succ, i64_w, i32_w]
            rfl
           refine pure_ (i := 4) (N := some 66) (v := ?_) (a' := ?_) #[false, true, true, true, true, false, false, false, false] rfl rfl (any_of HT_.out (by kernel_rfl)) (fun _ _ _ h => h) (Or.inl ⟨by rfl, ?_⟩) ?_ ?_
           rotate_left
           ·intro w'
            go_simp
            with_reducible rfl
           rotate_left
           ·simp only [Act.put, List.setIfInBounds_toArray, List.set_cons_zero, List.set_cons_succ, i64_w, i32_w]
            rfl
           refine pure_ (i := 5) (N := some 67) (v := ?_) (a' := ?_) #[false, true, true, true, true, true, false, false, false] rfl rfl (any_of HT_.out (by kernel_rfl)) (fun _ _ _ h => h) (Or.inl ⟨by rfl, ?_⟩) ?_ ?_
           rotate_left
           ·intro w'
            go_simp
            with_reducible rfl
           rotate_left
           ·simp only [Act.put, List.setIfInBounds_toArray, List.set_cons_zero, List.set_cons_succ, i64_w, i32_w]
            rfl
           refine take_ (i := 0) (N := some 62) (v := ?_) (a' := ?_) #[true, true, true, true, true, true, false, false, false] rfl rfl (take_ofW HT_.out HW_.out (by kernel_rfl)) (fun _ _ _ h => h) (Or.inl ⟨by rfl, ?_⟩) hHeld ?_ ?_
           rotate_left
           ·rintro w' ⟨s0, s1, s2, s3, s4, s5⟩
            go_simp
            with_reducible rfl
           rotate_left
           ·simp only [Act.put, List.setIfInBounds_toArray, List.set_cons_zero, List.set_cons_succ, i64_w, i32_w]
            rfl
           refine take_ (i := 6) (N := some 68) (v := ?_) (a' := ?_) #[true, true, true, true, true, true, true, false, false] rfl rfl (take_ofW HT_.out HW_.out (by kernel_rfl)) (fun _ _ _ h => h) (Or.inl ⟨by rfl, ?_⟩) hHeld ?_ ?_
           rotate_left
           ·rintro w' ⟨s0, s1, s2, s3, s4, s5⟩
            go_simp
            with_reducible rfl
           rotate_left
           ·simp only [Act.put, List.setIfInBounds_toArray, List.set_cons_zero, List.set_cons_succ, i64_w, i32_w]
            rfl
           refine one_ (i := 7) (N := some 69) #[true, true, true, true, true, true, true, true, false] rfl rfl (one_of HT_.out (by kernel_rfl)) (by decide) (fun K hK => ?_)
           refine goes_ Try.func18 (by kernel_rfl) rfl #[.agg #[.int .i64 a0_0, .int .i64 a0_1, .int .i64 a0_2], .int .i64 a1, .slice Ao39 x9_2.length co39, .agg #[.int .i64 ((rd_T37 l2 x10_2).f0), .int .i64 ((rd_T37 l2 x10_2).f1), .int .i64 ((rd_T37 l2 x10_2).f2)]] (by rfl) rfl rfl (by (try simp only [List.map_toArray, List.map_cons, List.map_nil]); first | done | rfl | (simp only [List.length_drop, List.length_take]; rfl)) ?_
           with_reducible refine (window_Put.calls k2 a0_0 a0_1 a0_2 a1 _ _ x9_2 ((rd_T37 l2 x10_2).f0) ((rd_T37 l2 x10_2).f1) ((rd_T37 l2 x10_2).f2) t511 _ ?side1 ?side2 A34.out).mono ?_
           (case side1 => repeat (first | exact (Kd.R_reads' HO_9.out).2.2 | (with_reducible refine Kd.C_alloc ?_ _) | (with_reducible refine Kd.C_drewN ?_ _) | (with_reducible refine Kd.C_drew ?_)))
           (case side2 => exact (Kd.R_reads' HO_9.out).2.1)
           rintro e w40 ⟨v512, rfl, ho0, hb⟩
           refine ⟨_, rfl, ?_⟩
           have n0_ := Aside0.mk (Kd.R_elder' (by (with_reducible repeat (first | apply Kd.R_alloc | apply Kd.R_drewN | apply Kd.R_drew)); exact HO_7.out) (Kd.R_base ho0) hb)
           have n1_ := Aside0.mk (Kd.R_elder' (by (with_reducible repeat (first | apply Kd.R_alloc | apply Kd.R_drewN | apply Kd.R_drew)); exact HO_8.out) (Kd.R_base ho0) hb)
           have n2_ := Aside0.mk (Kd.R_elder' (by (with_reducible repeat (first | apply Kd.R_alloc | apply Kd.R_drewN | apply Kd.R_drew)); exact HO_9.out) (Kd.R_base ho0) hb)
           have n3_ := Aside0.mk (Kd.R_elder' (by (with_reducible repeat (first | apply Kd.R_alloc | apply Kd.R_drewN | apply Kd.R_drew)); exact HO504.out) (Kd.R_base ho0) hb)
           have n4_ := Aside0.mk (Kd.R_lower (Kd.R_new' (Kd.R_new' (Kd.R_new' (Kd.R_new' ho0 (Kd.R_lt (by (with_reducible repeat (first | apply Kd.R_alloc | apply Kd.R_drewN | apply Kd.R_drew)); exact HO_7.out))) (Kd.R_lt (by (with_reducible repeat (first | apply Kd.R_alloc | apply Kd.R_drewN | apply Kd.R_drew)); exact HO_8.out))) (Kd.R_lt (by (with_reducible repeat (first | apply Kd.R_alloc | apply Kd.R_drewN | apply Kd.R_drew)); exact HO_9.out))) (Kd.R_lt (by (with_reducible repeat (first | apply Kd.R_alloc | apply Kd.R_drewN | apply Kd.R_drew)); exact HO504.out))) (below_size (by repeat (first | (with_reducible first | exact HB.out | apply below_alloc | apply pw_below_drewN | apply below_drew1 | refine below_set ?_ GE485.out) | exact HB.out))))
           have n5_ := Aside0.mk (blk_below (g := gb485) (o := .cells #[.int .i64 a0_0, .int .i64 a0_1, .int .i64 a0_2] 23 (0, 0)) (by (with_reducible repeat (first | refine blk_drewN ?_ _ | refine blk_drew ?_ | refine blk_alloc ?_ _)); exact BK485.out) hb)
           have n6_ := Aside0.mk (below_step (by repeat (first | (with_reducible first | exact HB.out | apply below_alloc | apply pw_below_drewN | apply below_drew1 | refine below_set ?_ GE485.out) | exact HB.out)) hb)
           clear HO_7
           clear HO_8
           clear HO_9
           clear HO504
           clear BK485
           clear HB
           have HO_7 := n0_
           have HO_8 := n1_
           have HO_9 := n2_
           have HO504 := n3_
           have HO513 := n4_
           have BK485 := n5_
           have HB := n6_
           clear n0_ n1_ n2_ n3_ n4_ n5_ n6_
           (try clear hb)
           (try clear hb2)
           (try clear hk)
           (try clear hi)
           (try clear ho0)
           refine hK.out _ _ ⟨(blk_cell BK485.out 0).trans rfl, (blk_cell BK485.out 1).trans rfl, (blk_cell BK485.out 2).trans rfl, ((HB.out.cell (World.block_lt_of_cell? w _ hw510_0)).trans hw510_0), ((HB.out.cell (World.block_lt_of_cell? w _ hw510_1)).trans hw510_1), ((HB.out.cell (World.block_lt_of_cell? w _ hw510_2)).trans hw510_2)⟩ (fun hHeld => ?_)
           clear hK K
           refine norm_ (a' := ?_) ?_ ?_
           rotate_left
           ·show Act.put _ (some 69) _ = _
            simp only [Act.put, List.setIfInBounds_toArray, List.set_cons_zero, List.set_cons_succ, i64_w, i32_w]
            rfl
           refine pure_ (i := 8) (N := some 9) (v := ?_) (a' := ?_) #[true, true, true, true, true, true, true, true, true] rfl rfl (any_of HT_.out (by kernel_rfl)) (fun _ _ _ h => h) (Or.inl ⟨by rfl, ?_⟩) ?_ ?_
           rotate_left
           ·intro w'
            go_simp
            with_reducible rfl
           rotate_left
           ·simp only [Act.put, List.setIfInBounds_toArray, List.set_cons_zero, List.set_cons_succ, i64_w, i32_w]
            rfl
           refine done_ (done_of HT_.out (by kernel_rfl)) ?_
           try go_wp2
           go_roundg k2
           case measure => have := HJ5.out; have := HK2.out; omega
           case rel => exact ⟨(t502), (x8_2), (t511), (wrap64 (x10_2 + 1)), (by first | rfl | (simp; done) | (simp [*]; done)), H', ⟨by have := HJ5.out; have := HK2.out; omega⟩, ⟨by (with_reducible repeat (first | apply Kd.R_alloc | apply Kd.R_drewN | apply Kd.R_drew)); exact Kd.R_mono HO504.out (fun _ hk => ⟨hk.1.1.2, hk.2⟩)⟩, ⟨by (with_reducible repeat (first | apply Kd.R_alloc | apply Kd.R_drewN | apply Kd.R_drew)); exact Kd.R_mono HO_8.out (fun _ hk => ⟨hk.1.2, hk.2⟩)⟩, ⟨by (with_reducible repeat (first | apply Kd.R_alloc | apply Kd.R_drewN | apply Kd.R_drew)); exact Kd.R_mono HO513.out (fun _ hk => ⟨hk.2, hk.1.1.2⟩)⟩, ⟨by (with_reducible repeat (first | refine blk_drewN ?_ _ | refine blk_drew ?_ | refine blk_alloc ?_ _)); exact BK485.out⟩, ⟨by repeat (first | (with_reducible first | exact HB.out | apply below_alloc | apply pw_below_drewN | apply below_drew1 | refine below_set ?_ GE485.out) | exact HB.out)⟩⟩
         ·replace c24 := Bool.eq_false_iff.mpr c24
          subst c24
          have H1 : (some true) = some r := by rw [if_neg (show ¬ (false = true) by decide)] at H; exact H
          clear H
          have H := H1
          clear H1
          obtain rfl := Option.some.inj H
          have p499 : 0 ≤ (x10_2 : Int) := of_decide_eq_true (by first | (with_reducible assumption) | assumption)
          have q499 : x10_2 < (l2.length : Int) := of_decide_eq_true (by first | (with_reducible assumption) | assumption)
          obtain ⟨ad499, e499, hx499_0, hx499_1, hx499_2⟩ := at_T37 HR2.out x10_2 p499 q499
          cases e499
          replace hx499_0 := (HB.out.cell (World.block_lt_of_cell? w _ hx499_0)).trans hx499_0
          replace hx499_1 := (HB.out.cell (World.block_lt_of_cell? w _ hx499_1)).trans hx499_1
          replace hx499_2 := (HB.out.cell (World.block_lt_of_cell? w _ hx499_2)).trans hx499_2
          replace p499 := eq_true p499
          replace q499 := eq_true q499
          go_wp2_with (first | ((with_reducible refine gate_callee (f := 14) rfl ?_); refine goesL_ (some 37) rfl rfl Try.func14 (by kernel_rfl) rfl #[.int .i64 ((rd_T37 l2 x10_2).f1)] rfl (by (try simp only [List.map_toArray, List.map_cons, List.map_nil]); first | done | rfl | (simp only [List.length_drop, List.length_take]; rfl)) ?_; (with_reducible refine (leatlaw11_time.calls ((rd_T37 l2 x10_2).f1) false _ A23.out).mono ?_); rintro e w' ⟨rfl, ⟨nd, rfl⟩⟩; refine ⟨_, rfl, ?_⟩))
          go_ret
          exact ⟨by first | rfl | (simp [errW_none, errW_some] <;> rfl) | (simp [*, errW_none, errW_some] <;> rfl), by repeat (first | (with_reducible first | exact HB.out | apply below_alloc | apply pw_below_drewN | apply below_drew1 | refine below_set ?_ GE485.out) | exact HB.out)⟩
        ·rw [if_neg c22] at H
         exact absurd H (by simp)
       ·rw [if_neg c21] at H
        have c21b0 : decide (x10_2 < (l2.length : Int)) = false := decide_eq_false c21
        clear c21
        by_cases c41 : ([] : List (S46)).length + x9_2.length < 4398046511104
        ·rw [if_pos c41] at H
         have LMc41 := Aside0.mk c41
         clear c41
         obtain ⟨y489, hy489⟩ : ∃ y_ : List (S46), y_ = (([] : List (S46)) ++ x9_2) := ⟨_, rfl⟩
         replace H : (if y489.length + x8_2.length < 4398046511104 then ((window_Sort.f (y489 ++ x8_2)).bind fun t495 => ((leathelp_Panes.f k2 x7_2 t495).bind fun t498 => (some t498))) else (none)) = some r := by first | (rw [hy489]; with_reducible exact H) | (have H2_ := (Option.bind_some _ _).symm.trans H; rw [hy489]; with_reducible exact H2_) | (have H2_ := (Option.bind_some _ _).symm.trans H; with_reducible exact H2_) | with_reducible exact H | (rw [hy489]; exact H) | exact H
         have Ny489 := Aside0.mk hy489
         clear hy489
         by_cases c42 : y489.length + x8_2.length < 4398046511104
         ·rw [if_pos c42] at H
          have LMc42 := Aside0.mk c42
          clear c42
          obtain ⟨y492, hy492⟩ : ∃ y_ : List (S46), y_ = (y489 ++ x8_2) := ⟨_, rfl⟩
          replace H : ((window_Sort.f y492).bind fun t495 => ((leathelp_Panes.f k2 x7_2 t495).bind fun t498 => (some t498))) = some r := by first | (rw [hy492]; with_reducible exact H) | (have H2_ := (Option.bind_some _ _).symm.trans H; rw [hy492]; with_reducible exact H2_) | (have H2_ := (Option.bind_some _ _).symm.trans H; with_reducible exact H2_) | with_reducible exact H | (rw [hy492]; exact H) | exact H
          have Ny492 := Aside0.mk hy492
          clear hy492
          replace H := Option.bind_eq_some_iff.mp H
          obtain ⟨t495, A430, H⟩ := H
          replace H : ((leathelp_Panes.f k2 x7_2 t495).bind fun t498 => (some t498)) = some r := H
          have A43 := Aside0.mk A430
          clear A430
          replace H := Option.bind_eq_some_iff.mp H
          obtain ⟨t498, A440, H⟩ := H
          replace H : (some t498) = some r := H
          have A44 := Aside0.mk A440
          clear A440
          obtain rfl := Option.some.inj H
          obtain ⟨Ao46, co46, eo46⟩ := Kd.R_slice HO_9.out
          subst eo46
          go_wp2_with (first | ((with_reducible refine gate_builtin (b := .append) (xs := #[.const (.slice none 0 0), .tmp 71]) rfl ?_); (try (refine gate_guard (by rfl) ?_; dsimp only)); at_builtin; refine Kd.R_append_rows k46 (w0 := w) w.heap.size rfl (.const (.slice none 0 0)) (.tmp 71) 35 46 (.agg #[(.int .i64 0), (.int .i64 0), (.int .i64 0), (.int .i64 0)]) 32 rfl Try.underlying35 info46 rfl (by decide) (by omega) (.slice none 0 0) ([] : List (S46)) x9_2 _ _ _ (fun k_ => some k_ ≠ (u7 : Value).ownBlock ∧ some k_ ≠ (u8 : Value).ownBlock ∧ some k_ ≠ (.slice Ao46 x9_2.length co46 : Value).ownBlock) (fun _ => False) rfl rfl ?aO ?aR (fun _ _ h => h) (fun _ h => h.elim) ?aF ?aB ?aS ?aL ?_; (case aR => repeat (first | exact (Kd.R_reads' HO_9.out).2.2 | (with_reducible refine Kd.C_alloc ?_ _) | (with_reducible refine Kd.C_drewN ?_ _) | (with_reducible refine Kd.C_drew ?_))); (case aB => exact (by repeat (first | (with_reducible first | exact HB.out | apply below_alloc | apply pw_below_drewN | apply below_drew1 | refine below_set ?_ GE485.out) | exact HB.out))); (case aF => exact (fun k_ hk => ⟨Kd.fresh' (Kd.R_lt (by (with_reducible repeat (first | apply Kd.R_alloc | apply Kd.R_drewN | apply Kd.R_drew)); exact HO_7.out)) k_ hk, Kd.fresh' (Kd.R_lt (by (with_reducible repeat (first | apply Kd.R_alloc | apply Kd.R_drewN | apply Kd.R_drew)); exact HO_8.out)) k_ hk, Kd.fresh' (Kd.R_lt (by (with_reducible repeat (first | apply Kd.R_alloc | apply Kd.R_drewN | apply Kd.R_drew)); exact HO_9.out)) k_ hk⟩)); (case aO => exact ((Kd.R_nil _ _ _ _ (fun k_ => some k_ ≠ (u7 : Value).ownBlock ∧ some k_ ≠ (u8 : Value).ownBlock ∧ some k_ ≠ (.slice Ao46 x9_2.length co46 : Value).ownBlock)))); (case aS => exact (below_size (by repeat (first | (with_reducible first | exact HB.out | apply below_alloc | apply pw_below_drewN | apply below_drew1 | refine below_set ?_ GE485.out) | exact HB.out)))); (case aL => have := LMc41.out; omega); intro v490 w45 ho hb hg hat; rw [← Ny489.out] at ho; have n0_ := Aside0.mk (Kd.R_after (Kd.R_apart_nil (by (with_reducible repeat (first | apply Kd.R_alloc | apply Kd.R_drewN | apply Kd.R_drew)); exact HO_7.out)) hg hat); have n1_ := Aside0.mk (Kd.R_after (Kd.R_apart_nil (by (with_reducible repeat (first | apply Kd.R_alloc | apply Kd.R_drewN | apply Kd.R_drew)); exact HO_8.out)) hg hat); have n2_ := Aside0.mk (Kd.R_after (Kd.R_apart_nil (by (with_reducible repeat (first | apply Kd.R_alloc | apply Kd.R_drewN | apply Kd.R_drew)); exact HO_9.out)) hg hat); have n3_ := Aside0.mk (blk_grown (g := gb485) (o := .cells #[.int .i64 a0_0, .int .i64 a0_1, .int .i64 a0_2] 23 (0, 0)) (by (with_reducible repeat (first | refine blk_drewN ?_ _ | refine blk_drew ?_ | refine blk_alloc ?_ _)); exact BK485.out) hg (by simp [Value.ownBlock])); have n4_ := Aside0.mk (hb); have n5_ := Aside0.mk (ho); clear HO_7; clear HO_8; clear HO_9; clear BK485; clear HB; have HO_7 := n0_; have HO_8 := n1_; have HO_9 := n2_; have BK485 := n3_; have HB := n4_; have HO491 := n5_; clear n0_ n1_ n2_ n3_ n4_ n5_; clear ho hb hg hat; obtain ⟨Ao48, co48, eo48⟩ := Kd.R_slice HO_8.out; subst eo48) | ((with_reducible refine gate_builtin (b := .append) (xs := #[.tmp 72, .tmp 73]) rfl ?_); (try (refine gate_guard (by rfl) ?_; dsimp only)); at_builtin; refine Kd.R_append_rows k46 (w0 := w) w.heap.size rfl (.tmp 72) (.tmp 73) 35 46 (.agg #[(.int .i64 0), (.int .i64 0), (.int .i64 0), (.int .i64 0)]) 32 rfl Try.underlying35 info46 rfl (by decide) (by omega) v490 y489 x8_2 _ _ _ (fun k_ => some k_ ≠ (u7 : Value).ownBlock ∧ some k_ ≠ (.slice Ao48 x8_2.length co48 : Value).ownBlock ∧ some k_ ≠ (.slice Ao46 x9_2.length co46 : Value).ownBlock) (fun _ => False) rfl rfl ?aO ?aR (fun _ _ h => h) (fun _ h => h.elim) ?aF ?aB ?aS ?aL ?_; (case aR => repeat (first | exact (Kd.R_reads' HO_8.out).2.2 | (with_reducible refine Kd.C_alloc ?_ _) | (with_reducible refine Kd.C_drewN ?_ _) | (with_reducible refine Kd.C_drew ?_))); (case aB => exact (by repeat (first | (with_reducible first | exact HB.out | apply below_alloc | apply pw_below_drewN | apply below_drew1 | refine below_set ?_ GE485.out) | exact HB.out))); (case aF => exact (fun k_ hk => ⟨Kd.fresh' (Kd.R_lt (by (with_reducible repeat (first | apply Kd.R_alloc | apply Kd.R_drewN | apply Kd.R_drew)); exact HO_7.out)) k_ hk, Kd.fresh' (Kd.R_lt (by (with_reducible repeat (first | apply Kd.R_alloc | apply Kd.R_drewN | apply Kd.R_drew)); exact HO_8.out)) k_ hk, Kd.fresh' (Kd.R_lt (by (with_reducible repeat (first | apply Kd.R_alloc | apply Kd.R_drewN | apply Kd.R_drew)); exact HO_9.out)) k_ hk⟩)); (case aO => exact (by (with_reducible repeat (first | apply Kd.R_alloc | apply Kd.R_drewN | apply Kd.R_drew)); exact HO491.out)); (case aS => exact (below_size (by repeat (first | (with_reducible first | exact HB.out | apply below_alloc | apply pw_below_drewN | apply below_drew1 | refine below_set ?_ GE485.out) | exact HB.out)))); (case aL => have := LMc42.out; omega); intro v493 w47 ho hb hg hat; rw [← Ny492.out] at ho; have n0_ := Aside0.mk (Kd.R_after (ok := (fun k_ => some k_ ≠ (.slice Ao48 x8_2.length co48 : Value).ownBlock ∧ some k_ ≠ (.slice Ao46 x9_2.length co46 : Value).ownBlock)) (by (with_reducible repeat (first | apply Kd.R_alloc | apply Kd.R_drewN | apply Kd.R_drew)); exact HO_7.out) hg hat); have n1_ := Aside0.mk (Kd.R_after (ok := (fun k_ => some k_ ≠ (u7 : Value).ownBlock ∧ some k_ ≠ (.slice Ao46 x9_2.length co46 : Value).ownBlock)) (by (with_reducible repeat (first | apply Kd.R_alloc | apply Kd.R_drewN | apply Kd.R_drew)); exact HO_8.out) hg hat); have n2_ := Aside0.mk (Kd.R_after (ok := (fun k_ => some k_ ≠ (u7 : Value).ownBlock ∧ some k_ ≠ (.slice Ao48 x8_2.length co48 : Value).ownBlock)) (by (with_reducible repeat (first | apply Kd.R_alloc | apply Kd.R_drewN | apply Kd.R_drew)); exact HO_9.out) hg hat); have n3_ := Aside0.mk (blk_grown (g := gb485) (o := .cells #[.int .i64 a0_0, .int .i64 a0_1, .int .i64 a0_2] 23 (0, 0)) (by (with_reducible repeat (first | refine blk_drewN ?_ _ | refine blk_drew ?_ | refine blk_alloc ?_ _)); exact BK485.out) hg (Kd.R_ne HO491.out BK485.out (by decide))); have n4_ := Aside0.mk (hb); have n5_ := Aside0.mk (ho); clear HO_7; clear HO_8; clear HO_9; clear BK485; clear HB; clear HO491; have HO_7 := n0_; have HO_8 := n1_; have HO_9 := n2_; have BK485 := n3_; have HB := n4_; have HO494 := n5_; clear n0_ n1_ n2_ n3_ n4_ n5_; clear ho hb hg hat; obtain ⟨Ao49, co49, eo49⟩ := Kd.R_slice HO494.out; subst eo49) | ((with_reducible refine gate_callee (f := 26) rfl ?_); refine goesL_ (some 75) rfl rfl Try.func26 (by kernel_rfl) rfl #[.slice Ao49 y492.length co49] rfl (by (try simp only [List.map_toArray, List.map_cons, List.map_nil]); first | done | rfl | (simp only [List.length_drop, List.length_take]; rfl)) ?_; (with_reducible refine (window_Sort.calls _ _ y492 t495 _ ?side1 ?side2 A43.out).mono ?_); (case side1 => repeat (first | exact (Kd.R_reads' HO494.out).2.2 | (with_reducible refine Kd.C_alloc ?_ _) | (with_reducible refine Kd.C_drewN ?_ _) | (with_reducible refine Kd.C_drew ?_))); (case side2 => exact (Kd.R_reads' HO494.out).2.1); rintro e w50 ⟨v496, rfl, ho0, hb⟩; refine ⟨_, rfl, ?_⟩; have n0_ := Aside0.mk (Kd.R_elder' (by (with_reducible repeat (first | apply Kd.R_alloc | apply Kd.R_drewN | apply Kd.R_drew)); exact HO_7.out) (Kd.R_base ho0) hb); have n1_ := Aside0.mk (Kd.R_elder' (by (with_reducible repeat (first | apply Kd.R_alloc | apply Kd.R_drewN | apply Kd.R_drew)); exact HO_8.out) (Kd.R_base ho0) hb); have n2_ := Aside0.mk (Kd.R_elder' (by (with_reducible repeat (first | apply Kd.R_alloc | apply Kd.R_drewN | apply Kd.R_drew)); exact HO_9.out) (Kd.R_base ho0) hb); have n3_ := Aside0.mk (Kd.R_elder' (by (with_reducible repeat (first | apply Kd.R_alloc | apply Kd.R_drewN | apply Kd.R_drew)); exact HO494.out) (Kd.R_base ho0) hb); have n4_ := Aside0.mk (Kd.R_lower (Kd.R_new' (Kd.R_new' (Kd.R_new' (Kd.R_new' ho0 (Kd.R_lt (by (with_reducible repeat (first | apply Kd.R_alloc | apply Kd.R_drewN | apply Kd.R_drew)); exact HO_7.out))) (Kd.R_lt (by (with_reducible repeat (first | apply Kd.R_alloc | apply Kd.R_drewN | apply Kd.R_drew)); exact HO_8.out))) (Kd.R_lt (by (with_reducible repeat (first | apply Kd.R_alloc | apply Kd.R_drewN | apply Kd.R_drew)); exact HO_9.out))) (Kd.R_lt (by (with_reducible repeat (first | apply Kd.R_alloc | apply Kd.R_drewN | apply Kd.R_drew)); exact HO494.out))) (below_size (by repeat (first | (with_reducible first | exact HB.out | apply below_alloc | apply pw_below_drewN | apply below_drew1 | refine below_set ?_ GE485.out) | exact HB.out)))); have n5_ := Aside0.mk (blk_below (g := gb485) (o := .cells #[.int .i64 a0_0, .int .i64 a0_1, .int .i64 a0_2] 23 (0, 0)) (by (with_reducible repeat (first | refine blk_drewN ?_ _ | refine blk_drew ?_ | refine blk_alloc ?_ _)); exact BK485.out) hb); have n6_ := Aside0.mk (below_step (by repeat (first | (with_reducible first | exact HB.out | apply below_alloc | apply pw_below_drewN | apply below_drew1 | refine below_set ?_ GE485.out) | exact HB.out)) hb); clear HO_7; clear HO_8; clear HO_9; clear HO494; clear BK485; clear HB; have HO_7 := n0_; have HO_8 := n1_; have HO_9 := n2_; have HO494 := n3_; have HO497 := n4_; have BK485 := n5_; have HB := n6_; clear n0_ n1_ n2_ n3_ n4_ n5_ n6_; (try clear hb); (try clear hb2); (try clear hk); (try clear hi); (try clear ho0); obtain ⟨Ao51, co51, eo51⟩ := Kd.R_slice HO_7.out; subst eo51; obtain ⟨Ao52, co52, eo52⟩ := Kd.R_slice HO497.out; subst eo52) | ((with_reducible refine gate_callee (f := 19) rfl ?_); refine goesL_ (some 76) rfl rfl Try.func19 (by kernel_rfl) rfl #[.slice Ao51 x7_2.length co51, .slice Ao52 t495.length co52] rfl (by (try simp only [List.map_toArray, List.map_cons, List.map_nil]); first | done | rfl | (simp only [List.length_drop, List.length_take]; rfl)) ?_; (with_reducible refine (leathelp_Panes.calls k2 _ _ x7_2 _ _ t495 t498 _ ?side1 ?side2 ?side3 ?side4 A44.out).mono ?_); (case side1 => repeat (first | exact (Kd.R_reads' HO_7.out).2.2 | (with_reducible refine Kd.C_alloc ?_ _) | (with_reducible refine Kd.C_drewN ?_ _) | (with_reducible refine Kd.C_drew ?_))); (case side2 => exact (Kd.R_reads' HO_7.out).2.1); (case side3 => repeat (first | exact (Kd.R_reads' HO497.out).2.2 | (with_reducible refine Kd.C_alloc ?_ _) | (with_reducible refine Kd.C_drewN ?_ _) | (with_reducible refine Kd.C_drew ?_))); (case side4 => exact (Kd.R_reads' HO497.out).2.1); rintro e w' ⟨rfl, ⟨nd, rfl⟩⟩; refine ⟨_, rfl, ?_⟩))
          go_ret
          exact ⟨by first | rfl | (simp [errW_none, errW_some] <;> rfl) | (simp [*, errW_none, errW_some] <;> rfl), by repeat (first | (with_reducible first | exact HB.out | apply below_alloc | apply pw_below_drewN | apply below_drew1 | refine below_set ?_ GE485.out) | exact HB.out)⟩
         ·rw [if_neg c42] at H
          exact absurd H (by simp)
        ·rw [if_neg c41] at H
         exact absurd H (by simp)
 ·replace c5 := Bool.eq_false_iff.mpr c5
  subst c5
  have H1 : (none) = some r := by rw [if_neg (show ¬ (false = true) by decide)] at H; exact H
  clear H
  have H := H1
  clear H1
  exact absurd H (by simp)
end Go.Proofs.Ytdinbnbogdadgaa.X
