/- Proofs towards the law WindowHalves, joined into one text. No conditions beyond those typed. -/
import Derived.Test.YtdinbnbogdadgaaMWindowHalves10
import Derived.Test.YtdinbnbogdadgaaMWindowHalves15
import Derived.Test.YtdinbnbogdadgaaMWindowHalves7
namespace Go.Proofs.Ytdinbnbogdadgaa.X
open Go.RowKit Go.Proofs.YtdinbnbogdadgaaW.PrintWords Go.Proofs.YtdinbnbogdadgaaW.PrintLast Go.Proofs.YtdinbnbogdadgaaW.PrintMore
attribute [local go_sem] max2_int min2_int max_two min_two max_three min_three max_four min_four   -- for this text's walks alone
set_option linter.unusedVariables false
set_option linter.unusedSimpArgs false
mutual
def leatlaw11_WindowHalves.j0 : Nat → Int → List (S37) → Int → Bool → Int → Int → Int → Option (Bool)
 | 0, _, _, _, _, _, _, _ => none
 | k + 1, x1, x2, x3, x32, x436000, x436001, x436002 => if x32 = true then (some true) else (leatlaw11_WindowHalves.l0 k x1 x2 x3 ([] : List (S46)) ([] : List (S46)) ([] : List (S46)) 0 x436000 x436001 x436002)
def leatlaw11_WindowHalves.l0 : Nat → Int → List (S37) → Int → List (S46) → List (S46) → List (S46) → Int → Int → Int → Int → Option (Bool)
 | 0, _, _, _, _, _, _, _, _, _, _ => none
 | k + 1, x1, x2, x3, x9, x10, x11, x12, x436000, x436001, x436002 => if x12 < (x2.length : Int) then (if 0 ≤ x12 then ((leatlaw11_time.f ((rd_T37 x2 x12).f1)).bind fun t450 => (if t450 = true then ((window_Put.f k x436000 x436001 x436002 x1 x9 ((rd_T37 x2 x12).f0) ((rd_T37 x2 x12).f1) ((rd_T37 x2 x12).f2)).bind fun t452 => (if 0 ≤ (Go.bits .and .i64 x12 63) then (if (Go.bits .and .u64 (shr .u64 x3 (Go.bits .and .i64 x12 63)) 1) = 0 then ((window_Put.f k x436000 x436001 x436002 x1 x10 ((rd_T37 x2 x12).f0) ((rd_T37 x2 x12).f1) ((rd_T37 x2 x12).f2)).bind fun t456 => (leatlaw11_WindowHalves.l0 k x1 x2 x3 t452 t456 x11 (wrap64 (x12 + 1)) x436000 x436001 x436002)) else ((window_Put.f k x436000 x436001 x436002 x1 x11 ((rd_T37 x2 x12).f0) ((rd_T37 x2 x12).f1) ((rd_T37 x2 x12).f2)).bind fun t460 => (leatlaw11_WindowHalves.l0 k x1 x2 x3 t452 x10 t460 (wrap64 (x12 + 1)) x436000 x436001 x436002))) else (none))) else (some true))) else (none)) else (if ([] : List (S46)).length + x11.length < 4398046511104 then ((some (([] : List (S46)) ++ x11 : List (S46))).bind fun y439 => (if y439.length + x10.length < 4398046511104 then ((window_Join.f x1 (y439 ++ x10)).bind fun t445 => ((leathelp_Panes.f k t445 x9).bind fun t448 => (some t448))) else (none))) else (none))
end
def leatlaw11_WindowHalves.f (k : Nat) (a0_0 : Int) (a0_1 : Int) (a0_2 : Int) (a1 : Int) (l2 : List (S37)) (a3 : Int) : Option (Bool) := (leatlaw11_known.f k).bind fun t436 => (if t436 = true then ((leatlaw11_fit.f k a0_0 a0_1 a0_2).bind fun t437 => (if t437 = true then (if a0_0 = 3 then (if (l2.length : Int) > 60 then (leatlaw11_WindowHalves.j0 k a1 l2 a3 true a0_0 a0_1 a0_2) else ((agg_Is.f a1).bind fun t438 => (leatlaw11_WindowHalves.j0 k a1 l2 a3 (!t438) a0_0 a0_1 a0_2))) else (leatlaw11_WindowHalves.j0 k a1 l2 a3 true a0_0 a0_1 a0_2)) else (leatlaw11_WindowHalves.j0 k a1 l2 a3 true a0_0 a0_1 a0_2))) else (none))
def leatlaw11_WindowHalves.T11 : Bool × List (List Nat × List Nat) := (true, [([], []), ([], []), ([], []), ([], []), ([], []), ([3, 4], [3, 4]), ([5], [5]), ([0, 1, 2, 6], [0, 1, 2, 6]), ([7, 7, 0, 1, 2, 3, 4, 5, 6, 7], [2, 7])])
def leatlaw11_WindowHalves.B11 : List Nat := [0, 0, 0, 0, 0, 24, 56, 127, 255]
theorem leatlaw11_WindowHalves.tab11 : rtab .any (opsOf Try.f11 11) = leatlaw11_WindowHalves.T11 := by kernel_rfl
theorem leatlaw11_WindowHalves.bits11 : waitsOk leatlaw11_WindowHalves.T11.2 leatlaw11_WindowHalves.B11 = true := by kernel_rfl
def leatlaw11_WindowHalves.T13 : Bool × List (List Nat × List Nat) := (true, [([], []), ([], []), ([], []), ([], []), ([], []), ([3, 4], [3, 4]), ([5], [5]), ([0, 1, 2, 6], [0, 1, 2, 6]), ([7, 7, 0, 1, 2, 3, 4, 5, 6, 7], [2, 7])])
def leatlaw11_WindowHalves.B13 : List Nat := [0, 0, 0, 0, 0, 24, 56, 127, 255]
theorem leatlaw11_WindowHalves.tab13 : rtab .any (opsOf Try.f11 13) = leatlaw11_WindowHalves.T13 := by kernel_rfl
theorem leatlaw11_WindowHalves.bits13 : waitsOk leatlaw11_WindowHalves.T13.2 leatlaw11_WindowHalves.B13 = true := by kernel_rfl
def leatlaw11_WindowHalves.T14 : Bool × List (List Nat × List Nat) := (true, [([], []), ([], []), ([], []), ([], []), ([], []), ([3, 4], [3, 4]), ([5], [5]), ([0, 1, 2, 6], [0, 1, 2, 6]), ([7, 7, 0, 1, 2, 3, 4, 5, 6, 7], [2, 7])])
def leatlaw11_WindowHalves.B14 : List Nat := [0, 0, 0, 0, 0, 24, 56, 127, 255]
theorem leatlaw11_WindowHalves.tab14 : rtab .any (opsOf Try.f11 14) = leatlaw11_WindowHalves.T14 := by kernel_rfl
theorem leatlaw11_WindowHalves.bits14 : waitsOk leatlaw11_WindowHalves.T14.2 leatlaw11_WindowHalves.B14 = true := by kernel_rfl
set_option maxHeartbeats 8000000 in
set_option maxRecDepth 100000 in
theorem leatlaw11_WindowHalves.calls (k : Nat) (a0_0 : Int) (a0_1 : Int) (a0_2 : Int) (a1 : Int) (A2 : Option Addr) (c2 : Nat) (l2 : List (S37)) (a3 : Int) (r : Bool) (w : World) (hr2 : Kd.C k37 w A2 l2.length l2) (hc2 : l2.length ≤ c2) (h : leatlaw11_WindowHalves.f k a0_0 a0_1 a0_2 a1 l2 a3 = some r) :
  Calls Try.prog 11 #[.agg #[.int .i64 a0_0, .int .i64 a0_1, .int .i64 a0_2], .int .i64 a1, .slice A2 l2.length c2, .int .u64 a3] w fun e w' => e = .returned (.bool r) ∧ Below w.heap.size w w' := by
 have hu23 := Try.underlying23
 have hu37 := Try.underlying37
 have HR2 := Aside0.mk hr2
 have HC2 := Aside0.mk hc2
 clear hr2 hc2
 have HB := Aside0.mk (Below.refl w.heap.size w)
 have H : ((leatlaw11_known.f k).bind fun t436 => (if t436 = true then ((leatlaw11_fit.f k a0_0 a0_1 a0_2).bind fun t437 => (if t437 = true then (if a0_0 = 3 then (if (l2.length : Int) > 60 then (leatlaw11_WindowHalves.j0 k a1 l2 a3 true a0_0 a0_1 a0_2) else ((agg_Is.f a1).bind fun t438 => (leatlaw11_WindowHalves.j0 k a1 l2 a3 (!t438) a0_0 a0_1 a0_2))) else (leatlaw11_WindowHalves.j0 k a1 l2 a3 true a0_0 a0_1 a0_2)) else (leatlaw11_WindowHalves.j0 k a1 l2 a3 true a0_0 a0_1 a0_2))) else (none))) = some r := h
 clear h
 replace H := Option.bind_eq_some_iff.mp H
 obtain ⟨t436, A50, H⟩ := H
 replace H : (if t436 = true then ((leatlaw11_fit.f k a0_0 a0_1 a0_2).bind fun t437 => (if t437 = true then (if a0_0 = 3 then (if (l2.length : Int) > 60 then (leatlaw11_WindowHalves.j0 k a1 l2 a3 true a0_0 a0_1 a0_2) else ((agg_Is.f a1).bind fun t438 => (leatlaw11_WindowHalves.j0 k a1 l2 a3 (!t438) a0_0 a0_1 a0_2))) else (leatlaw11_WindowHalves.j0 k a1 l2 a3 true a0_0 a0_1 a0_2)) else (leatlaw11_WindowHalves.j0 k a1 l2 a3 true a0_0 a0_1 a0_2))) else (none)) = some r := H
 have A5 := Aside0.mk A50
 clear A50
 by_cases c6 : t436 = true
 ·subst c6
  have H1 : ((leatlaw11_fit.f k a0_0 a0_1 a0_2).bind fun t437 => (if t437 = true then (if a0_0 = 3 then (if (l2.length : Int) > 60 then (leatlaw11_WindowHalves.j0 k a1 l2 a3 true a0_0 a0_1 a0_2) else ((agg_Is.f a1).bind fun t438 => (leatlaw11_WindowHalves.j0 k a1 l2 a3 (!t438) a0_0 a0_1 a0_2))) else (leatlaw11_WindowHalves.j0 k a1 l2 a3 true a0_0 a0_1 a0_2)) else (leatlaw11_WindowHalves.j0 k a1 l2 a3 true a0_0 a0_1 a0_2))) = some r := by rw [if_pos rfl] at H; exact H
  clear H
  have H := H1
  clear H1
  have HC7 := Aside0.mk H
  clear H
  go_enter Try.func11, Try.ntmps11
  go_upto_region 3 with (first | ((with_reducible refine gate_dst (N := 4) rfl ?_); (try (refine gate_guard (by rfl) ?_; dsimp only)); refine box_event ?hg (N := 4) ?hd (cs := #[.int .i64 a0_0, .int .i64 a0_1, .int .i64 a0_2]) (t := 23) ?hr ?_; (case hd => rfl); (case hg => rfl); (case hr => first | (go_simp; done) | (go_simp; rfl)); intro gb435 hg w8 hbox hb; have n0_ := Aside0.mk (below_step (by repeat (first | (with_reducible first | exact HB.out | apply below_alloc | apply pw_below_drewN | apply below_drew1) | exact HB.out)) hb); have n1_ := Aside0.mk (hbox); have n2_ := Aside0.mk ((by rw [hg]; exact (below_size (by repeat (first | (with_reducible first | exact HB.out | apply below_alloc | apply pw_below_drewN | apply below_drew1) | exact HB.out))) : w.heap.size ≤ gb435)); have n3_ := Aside0.mk ((by rw [hg]; exact (below_size (by repeat (first | (with_reducible first | exact HB.out | apply below_alloc | apply pw_below_drewN | apply below_drew1) | exact HB.out))) : w.heap.size ≤ gb435)); clear HB; have HB := n0_; have BK435 := n1_; have GW435 := n2_; have GE435 := n3_; clear n0_ n1_ n2_ n3_; clear hb hbox hg) | ((with_reducible refine gate_callee (f := 12) rfl ?_); refine goesL_ (some 13) rfl rfl Try.func12 (by kernel_rfl) rfl #[] rfl (by (try simp only [List.map_toArray, List.map_cons, List.map_nil]); first | done | rfl | (simp only [List.length_drop, List.length_take]; rfl)) ?_; (with_reducible refine (leatlaw11_known.calls k  true _ A5.out).mono ?_); rintro e w9 ⟨rfl, hb⟩; refine ⟨_, rfl, ?_⟩; have n0_ := Aside0.mk (blk_below (g := gb435) (o := .cells #[.int .i64 a0_0, .int .i64 a0_1, .int .i64 a0_2] 23 (0, 0)) (by (with_reducible repeat (first | refine blk_drewN ?_ _ | refine blk_drew ?_ | refine blk_alloc ?_ _)); exact BK435.out) hb); have n1_ := Aside0.mk (below_step (by repeat (first | (with_reducible first | exact HB.out | apply below_alloc | apply pw_below_drewN | apply below_drew1 | refine below_set ?_ GE435.out) | exact HB.out)) hb); clear BK435; clear HB; have BK435 := n0_; have HB := n1_; clear n0_ n1_; (try clear hb); (try clear hb2); (try clear hk); (try clear hi)))
  (try simp only [Act.put, List.setIfInBounds_toArray, List.set_cons_zero, List.set_cons_succ])
  go_cut [32] (fun v32 wc => ∃ (kq : Nat) (x32_6 : Bool), v32 = .bool x32_6 ∧ Aside0 (leatlaw11_WindowHalves.j0 kq a1 l2 a3 x32_6 a0_0 a0_1 a0_2 = some r) ∧ Aside0 (kq ≤ k) ∧ Aside0 (wc.heap[gb435]? = some (.cells #[.int .i64 a0_0, .int .i64 a0_1, .int .i64 a0_2] 23 (0, 0))) ∧ Aside0 (Below w.heap.size w wc))
  case first =>
   have H := HC7.out
   clear HC7
   replace H := Option.bind_eq_some_iff.mp H
   obtain ⟨t437, A100, H⟩ := H
   replace H : (if t437 = true then (if a0_0 = 3 then (if (l2.length : Int) > 60 then (leatlaw11_WindowHalves.j0 k a1 l2 a3 true a0_0 a0_1 a0_2) else ((agg_Is.f a1).bind fun t438 => (leatlaw11_WindowHalves.j0 k a1 l2 a3 (!t438) a0_0 a0_1 a0_2))) else (leatlaw11_WindowHalves.j0 k a1 l2 a3 true a0_0 a0_1 a0_2)) else (leatlaw11_WindowHalves.j0 k a1 l2 a3 true a0_0 a0_1 a0_2)) = some r := H
   have A10 := Aside0.mk A100
   clear A100
   by_cases c11 : t437 = true
   ·subst c11
    have H1 : (if a0_0 = 3 then (if (l2.length : Int) > 60 then (leatlaw11_WindowHalves.j0 k a1 l2 a3 true a0_0 a0_1 a0_2) else ((agg_Is.f a1).bind fun t438 => (leatlaw11_WindowHalves.j0 k a1 l2 a3 (!t438) a0_0 a0_1 a0_2))) else (leatlaw11_WindowHalves.j0 k a1 l2 a3 true a0_0 a0_1 a0_2)) = some r := by rw [if_pos rfl] at H; exact H
    clear H
    have H := H1
    clear H1
    by_cases c12 : a0_0 = 3
    ·rw [if_pos c12] at H
     have c12b0 : (a0_0 == 3) = true := beq_iff_eq.mpr c12
     have c12b1 : (a0_0 != 3) = false := bne_eq_false_iff_eq.mpr c12
     clear c12
     (first | rw [c12b0] | (simp only [i64_w, i32_w]; rw [c12b0]) | skip)
     by_cases c13 : (l2.length : Int) > 60
     ·rw [if_pos c13] at H
      have c13b0 : decide (60 < (l2.length : Int)) = true := decide_eq_true c13
      have c13b1 : decide (60 < l2.length) = true := decide_eq_true (by omega)
      clear c13
      have H' := Aside0.mk H
      clear H
      have hcz14_0 : w9.cell? ⟨gb435, 0, none⟩ = some (.int .i64 a0_0) := (blk_cell BK435.out 0).trans rfl
      have hcz14_1 : w9.cell? ⟨gb435, 1, none⟩ = some (.int .i64 a0_1) := (blk_cell BK435.out 1).trans rfl
      have hcz14_2 : w9.cell? ⟨gb435, 2, none⟩ = some (.int .i64 a0_2) := (blk_cell BK435.out 2).trans rfl
      have hfz14_0 := blk_frozen BK435.out 0
      have hfz14_1 := blk_frozen BK435.out 1
      have hfz14_2 := blk_frozen BK435.out 2
      go_wp2_with (first | ((with_reducible refine gate_callee (f := 13) rfl ?_); refine goesL_ (some 16) rfl rfl Try.func13 (by kernel_rfl) rfl #[.agg #[.int .i64 a0_0, .int .i64 a0_1, .int .i64 a0_2]] rfl (by (try simp only [List.map_toArray, List.map_cons, List.map_nil]); first | done | rfl | (simp only [List.length_drop, List.length_take]; rfl)) ?_; (with_reducible refine (leatlaw11_fit.calls k a0_0 a0_1 a0_2 true _ A10.out).mono ?_); rintro e w15 ⟨rfl, hb⟩; refine ⟨_, rfl, ?_⟩; have n0_ := Aside0.mk (blk_below (g := gb435) (o := .cells #[.int .i64 a0_0, .int .i64 a0_1, .int .i64 a0_2] 23 (0, 0)) (by (with_reducible repeat (first | refine blk_drewN ?_ _ | refine blk_drew ?_ | refine blk_alloc ?_ _)); exact BK435.out) hb); have n1_ := Aside0.mk (below_step (by repeat (first | (with_reducible first | exact HB.out | apply below_alloc | apply pw_below_drewN | apply below_drew1 | refine below_set ?_ GE435.out) | exact HB.out)) hb); clear BK435; clear HB; have BK435 := n0_; have HB := n1_; clear n0_ n1_; (try clear hb); (try clear hb2); (try clear hk); (try clear hi); have hcz16_0 : w15.cell? ⟨gb435, 0, none⟩ = some (.int .i64 a0_0) := (blk_cell BK435.out 0).trans rfl; have hcz16_1 : w15.cell? ⟨gb435, 1, none⟩ = some (.int .i64 a0_1) := (blk_cell BK435.out 1).trans rfl; have hcz16_2 : w15.cell? ⟨gb435, 2, none⟩ = some (.int .i64 a0_2) := (blk_cell BK435.out 2).trans rfl; have hfz16_0 := blk_frozen BK435.out 0; have hfz16_1 := blk_frozen BK435.out 1; have hfz16_2 := blk_frozen BK435.out 2))
      go_meet
      case rel => exact ⟨_, (true), (by first | rfl | (simp; done) | (simp [*]; done)), H', ⟨by first | omega | exact Nat.le_refl _⟩, ⟨by (with_reducible repeat (first | refine blk_drewN ?_ _ | refine blk_drew ?_ | refine blk_alloc ?_ _)); exact BK435.out⟩, ⟨by repeat (first | (with_reducible first | exact HB.out | apply below_alloc | apply pw_below_drewN | apply below_drew1 | refine below_set ?_ GE435.out) | exact HB.out)⟩⟩
     ·rw [if_neg c13] at H
      have c13b0 : decide (60 < (l2.length : Int)) = false := decide_eq_false c13
      have c13b1 : decide (60 < l2.length) = false := decide_eq_false (by omega)
      clear c13
      replace H := Option.bind_eq_some_iff.mp H
      obtain ⟨t438, A170, H⟩ := H
      replace H : (leatlaw11_WindowHalves.j0 k a1 l2 a3 (!t438) a0_0 a0_1 a0_2) = some r := H
      have A17 := Aside0.mk A170
      clear A170
      have H' := Aside0.mk H
      clear H
      have hcz18_0 : w9.cell? ⟨gb435, 0, none⟩ = some (.int .i64 a0_0) := (blk_cell BK435.out 0).trans rfl
      have hcz18_1 : w9.cell? ⟨gb435, 1, none⟩ = some (.int .i64 a0_1) := (blk_cell BK435.out 1).trans rfl
      have hcz18_2 : w9.cell? ⟨gb435, 2, none⟩ = some (.int .i64 a0_2) := (blk_cell BK435.out 2).trans rfl
      have hfz18_0 := blk_frozen BK435.out 0
      have hfz18_1 := blk_frozen BK435.out 1
      have hfz18_2 := blk_frozen BK435.out 2
      go_wp2_with (first | ((with_reducible refine gate_callee (f := 13) rfl ?_); refine goesL_ (some 16) rfl rfl Try.func13 (by kernel_rfl) rfl #[.agg #[.int .i64 a0_0, .int .i64 a0_1, .int .i64 a0_2]] rfl (by (try simp only [List.map_toArray, List.map_cons, List.map_nil]); first | done | rfl | (simp only [List.length_drop, List.length_take]; rfl)) ?_; (with_reducible refine (leatlaw11_fit.calls k a0_0 a0_1 a0_2 true _ A10.out).mono ?_); rintro e w19 ⟨rfl, hb⟩; refine ⟨_, rfl, ?_⟩; have n0_ := Aside0.mk (blk_below (g := gb435) (o := .cells #[.int .i64 a0_0, .int .i64 a0_1, .int .i64 a0_2] 23 (0, 0)) (by (with_reducible repeat (first | refine blk_drewN ?_ _ | refine blk_drew ?_ | refine blk_alloc ?_ _)); exact BK435.out) hb); have n1_ := Aside0.mk (below_step (by repeat (first | (with_reducible first | exact HB.out | apply below_alloc | apply pw_below_drewN | apply below_drew1 | refine below_set ?_ GE435.out) | exact HB.out)) hb); clear BK435; clear HB; have BK435 := n0_; have HB := n1_; clear n0_ n1_; (try clear hb); (try clear hb2); (try clear hk); (try clear hi); have hcz20_0 : w19.cell? ⟨gb435, 0, none⟩ = some (.int .i64 a0_0) := (blk_cell BK435.out 0).trans rfl; have hcz20_1 : w19.cell? ⟨gb435, 1, none⟩ = some (.int .i64 a0_1) := (blk_cell BK435.out 1).trans rfl; have hcz20_2 : w19.cell? ⟨gb435, 2, none⟩ = some (.int .i64 a0_2) := (blk_cell BK435.out 2).trans rfl; have hfz20_0 := blk_frozen BK435.out 0; have hfz20_1 := blk_frozen BK435.out 1; have hfz20_2 := blk_frozen BK435.out 2) | (go_at_call 27; (with_reducible refine (agg_Is.calls a1 t438 _ A17.out).mono ?_); rintro e w21 ⟨rfl, hb⟩; have n0_ := Aside0.mk (blk_below (g := gb435) (o := .cells #[.int .i64 a0_0, .int .i64 a0_1, .int .i64 a0_2] 23 (0, 0)) (by (with_reducible repeat (first | refine blk_drewN ?_ _ | refine blk_drew ?_ | refine blk_alloc ?_ _)); exact BK435.out) hb); have n1_ := Aside0.mk (below_step (by repeat (first | (with_reducible first | exact HB.out | apply below_alloc | apply pw_below_drewN | apply below_drew1 | refine below_set ?_ GE435.out) | exact HB.out)) hb); clear BK435; clear HB; have BK435 := n0_; have HB := n1_; clear n0_ n1_; (try clear hb); (try clear hb2); (try clear hk); (try clear hi)))
      go_meet
      case rel => exact ⟨_, (!t438), (by first | rfl | (simp; done) | (simp [*]; done)), H', ⟨by first | omega | exact Nat.le_refl _⟩, ⟨by (with_reducible repeat (first | refine blk_drewN ?_ _ | refine blk_drew ?_ | refine blk_alloc ?_ _)); exact BK435.out⟩, ⟨by repeat (first | (with_reducible first | exact HB.out | apply below_alloc | apply pw_below_drewN | apply below_drew1 | refine below_set ?_ GE435.out) | exact HB.out)⟩⟩
    ·rw [if_neg c12] at H
     have c12b0 : (a0_0 == 3) = false := beq_eq_false_iff_ne.mpr c12
     have c12b1 : (a0_0 != 3) = true := bne_iff_ne.mpr c12
     (first | rw [c12b0] | (simp only [i64_w, i32_w]; rw [c12b0]) | skip)
     have H' := Aside0.mk H
     clear H
     have hcz22_0 : w9.cell? ⟨gb435, 0, none⟩ = some (.int .i64 a0_0) := (blk_cell BK435.out 0).trans rfl
     have hcz22_1 : w9.cell? ⟨gb435, 1, none⟩ = some (.int .i64 a0_1) := (blk_cell BK435.out 1).trans rfl
     have hcz22_2 : w9.cell? ⟨gb435, 2, none⟩ = some (.int .i64 a0_2) := (blk_cell BK435.out 2).trans rfl
     have hfz22_0 := blk_frozen BK435.out 0
     have hfz22_1 := blk_frozen BK435.out 1
     have hfz22_2 := blk_frozen BK435.out 2
     go_wp2_with (first | ((with_reducible refine gate_callee (f := 13) rfl ?_); refine goesL_ (some 16) rfl rfl Try.func13 (by kernel_rfl) rfl #[.agg #[.int .i64 a0_0, .int .i64 a0_1, .int .i64 a0_2]] rfl (by (try simp only [List.map_toArray, List.map_cons, List.map_nil]); first | done | rfl | (simp only [List.length_drop, List.length_take]; rfl)) ?_; (with_reducible refine (leatlaw11_fit.calls k a0_0 a0_1 a0_2 true _ A10.out).mono ?_); rintro e w23 ⟨rfl, hb⟩; refine ⟨_, rfl, ?_⟩; have n0_ := Aside0.mk (blk_below (g := gb435) (o := .cells #[.int .i64 a0_0, .int .i64 a0_1, .int .i64 a0_2] 23 (0, 0)) (by (with_reducible repeat (first | refine blk_drewN ?_ _ | refine blk_drew ?_ | refine blk_alloc ?_ _)); exact BK435.out) hb); have n1_ := Aside0.mk (below_step (by repeat (first | (with_reducible first | exact HB.out | apply below_alloc | apply pw_below_drewN | apply below_drew1 | refine below_set ?_ GE435.out) | exact HB.out)) hb); clear BK435; clear HB; have BK435 := n0_; have HB := n1_; clear n0_ n1_; (try clear hb); (try clear hb2); (try clear hk); (try clear hi); have hcz24_0 : w23.cell? ⟨gb435, 0, none⟩ = some (.int .i64 a0_0) := (blk_cell BK435.out 0).trans rfl; have hcz24_1 : w23.cell? ⟨gb435, 1, none⟩ = some (.int .i64 a0_1) := (blk_cell BK435.out 1).trans rfl; have hcz24_2 : w23.cell? ⟨gb435, 2, none⟩ = some (.int .i64 a0_2) := (blk_cell BK435.out 2).trans rfl; have hfz24_0 := blk_frozen BK435.out 0; have hfz24_1 := blk_frozen BK435.out 1; have hfz24_2 := blk_frozen BK435.out 2))
     go_meet
     case rel => exact ⟨_, (true), (by first | rfl | (simp; done) | (simp [*]; done)), H', ⟨by first | omega | exact Nat.le_refl _⟩, ⟨by (with_reducible repeat (first | refine blk_drewN ?_ _ | refine blk_drew ?_ | refine blk_alloc ?_ _)); exact BK435.out⟩, ⟨by repeat (first | (with_reducible first | exact HB.out | apply below_alloc | apply pw_below_drewN | apply below_drew1 | refine below_set ?_ GE435.out) | exact HB.out)⟩⟩
   ·replace c11 := Bool.eq_false_iff.mpr c11
    subst c11
    have H1 : (leatlaw11_WindowHalves.j0 k a1 l2 a3 true a0_0 a0_1 a0_2) = some r := by rw [if_neg (show ¬ (false = true) by decide)] at H; exact H
    clear H
    have H := H1
    clear H1
    have H' := Aside0.mk H
    clear H
    have hcz25_0 : w9.cell? ⟨gb435, 0, none⟩ = some (.int .i64 a0_0) := (blk_cell BK435.out 0).trans rfl
    have hcz25_1 : w9.cell? ⟨gb435, 1, none⟩ = some (.int .i64 a0_1) := (blk_cell BK435.out 1).trans rfl
    have hcz25_2 : w9.cell? ⟨gb435, 2, none⟩ = some (.int .i64 a0_2) := (blk_cell BK435.out 2).trans rfl
    have hfz25_0 := blk_frozen BK435.out 0
    have hfz25_1 := blk_frozen BK435.out 1
    have hfz25_2 := blk_frozen BK435.out 2
    go_wp2_with (first | ((with_reducible refine gate_callee (f := 13) rfl ?_); refine goesL_ (some 16) rfl rfl Try.func13 (by kernel_rfl) rfl #[.agg #[.int .i64 a0_0, .int .i64 a0_1, .int .i64 a0_2]] rfl (by (try simp only [List.map_toArray, List.map_cons, List.map_nil]); first | done | rfl | (simp only [List.length_drop, List.length_take]; rfl)) ?_; (with_reducible refine (leatlaw11_fit.calls k a0_0 a0_1 a0_2 false _ A10.out).mono ?_); rintro e w26 ⟨rfl, hb⟩; refine ⟨_, rfl, ?_⟩; have n0_ := Aside0.mk (blk_below (g := gb435) (o := .cells #[.int .i64 a0_0, .int .i64 a0_1, .int .i64 a0_2] 23 (0, 0)) (by (with_reducible repeat (first | refine blk_drewN ?_ _ | refine blk_drew ?_ | refine blk_alloc ?_ _)); exact BK435.out) hb); have n1_ := Aside0.mk (below_step (by repeat (first | (with_reducible first | exact HB.out | apply below_alloc | apply pw_below_drewN | apply below_drew1 | refine below_set ?_ GE435.out) | exact HB.out)) hb); clear BK435; clear HB; have BK435 := n0_; have HB := n1_; clear n0_ n1_; (try clear hb); (try clear hb2); (try clear hk); (try clear hi)))
    go_meet
    case rel => exact ⟨_, (true), (by first | rfl | (simp; done) | (simp [*]; done)), H', ⟨by first | omega | exact Nat.le_refl _⟩, ⟨by (with_reducible repeat (first | refine blk_drewN ?_ _ | refine blk_drew ?_ | refine blk_alloc ?_ _)); exact BK435.out⟩, ⟨by repeat (first | (with_reducible first | exact HB.out | apply below_alloc | apply pw_below_drewN | apply below_drew1 | refine below_set ?_ GE435.out) | exact HB.out)⟩⟩
  case rest =>
   clear HC7
   try clear c1; try clear c2; try clear p2; try clear c6; try clear c11; try clear c12; try clear c12b0; try clear c12b1; try clear c13; try clear c13b0; try clear c13b1; try clear hcz14_0; try clear hcz14_1; try clear hcz14_2; try clear hcz16_0; try clear hcz16_1; try clear hcz16_2; try clear hcz18_0; try clear hcz18_1; try clear hcz18_2; try clear hcz20_0; try clear hcz20_1; try clear hcz20_2; try clear hcz22_0; try clear hcz22_1; try clear hcz22_2; try clear hcz24_0; try clear hcz24_1; try clear hcz24_2; try clear hcz25_0; try clear hcz25_1; try clear hcz25_2; try clear hfz14_0; try clear hfz14_1; try clear hfz14_2; try clear hfz16_0; try clear hfz16_1; try clear hfz16_2; try clear hfz18_0; try clear hfz18_1; try clear hfz18_2; try clear hfz20_0; try clear hfz20_1; try clear hfz20_2; try clear hfz22_0; try clear hfz22_1; try clear hfz22_2; try clear hfz24_0; try clear hfz24_1; try clear hfz24_2; try clear hfz25_0; try clear hfz25_1; try clear hfz25_2
   obtain ⟨kq, x32_6, rfl, HA, HJ6, BK435, HB⟩ := hcut
   cases kq with
   | zero => exact absurd HA.out (by simp [leatlaw11_WindowHalves.j0])
   | succ kj6 =>
    have H := HA.out
    clear HA
    simp only [leatlaw11_WindowHalves.j0] at H
    by_cases c27 : x32_6 = true
    ·subst c27
     have H1 : (some true) = some r := by rw [if_pos rfl] at H; exact H
     clear H
     have H := H1
     clear H1
     obtain rfl := Option.some.inj H
     go_wp2
     go_ret
     exact ⟨by first | rfl | (simp [errW_none, errW_some] <;> rfl) | (simp [*, errW_none, errW_some] <;> rfl), by repeat (first | (with_reducible first | exact HB.out | apply below_alloc | apply pw_below_drewN | apply below_drew1 | refine below_set ?_ GE435.out) | exact HB.out)⟩
    ·replace c27 := Bool.eq_false_iff.mpr c27
     subst c27
     have H1 : (leatlaw11_WindowHalves.l0 kj6 a1 l2 a3 ([] : List (S46)) ([] : List (S46)) ([] : List (S46)) 0 a0_0 a0_1 a0_2) = some r := by rw [if_neg (show ¬ (false = true) by decide)] at H; exact H
     clear H
     have H := H1
     clear H1
     have H' := Aside0.mk H
     clear H
     go_wp2
     go_loopg [9, 10, 11, 12] kj6 (fun kq v9 v10 v11 v12 w' => ∃ (x9_2 : List (S46)) (x10_2 : List (S46)) (x11_2 : List (S46)) (x12_2 : Int), v12 = .int .i64 x12_2 ∧ Aside0 (leatlaw11_WindowHalves.l0 kq a1 l2 a3 x9_2 x10_2 x11_2 x12_2 a0_0 a0_1 a0_2 = some r) ∧ Aside0 (kq ≤ kj6) ∧ Aside0 (Kd.R k46 46 w' w.heap.size (fun k_ => some k_ ≠ (v10 : Value).ownBlock ∧ some k_ ≠ (v11 : Value).ownBlock) v9 x9_2) ∧ Aside0 (Kd.R k46 46 w' w.heap.size (fun k_ => some k_ ≠ (v9 : Value).ownBlock ∧ some k_ ≠ (v11 : Value).ownBlock) v10 x10_2) ∧ Aside0 (Kd.R k46 46 w' w.heap.size (fun k_ => some k_ ≠ (v9 : Value).ownBlock ∧ some k_ ≠ (v10 : Value).ownBlock) v11 x11_2) ∧ Aside0 (w'.heap[gb435]? = some (.cells #[.int .i64 a0_0, .int .i64 a0_1, .int .i64 a0_2] 23 (0, 0))) ∧ Aside0 (Below w.heap.size w w'))
     case atStart => exact ⟨(([] : List (S46))), (([] : List (S46))), (([] : List (S46))), (0), (by first | rfl | (simp; done) | (simp [*]; done)), H', ⟨Nat.le_refl _⟩, ⟨by first | exact Kd.R_nil _ _ _ _ _ | exact Kd.N_nil _ _ _ _ _ | exact Kd.V_nil _ _ _ _ _ | exact Kd.Q_nil _ _ _ _ _ | exact Kd.S_nil _ _ _ _ _⟩, ⟨by first | exact Kd.R_nil _ _ _ _ _ | exact Kd.N_nil _ _ _ _ _ | exact Kd.V_nil _ _ _ _ _ | exact Kd.Q_nil _ _ _ _ _ | exact Kd.S_nil _ _ _ _ _⟩, ⟨by first | exact Kd.R_nil _ _ _ _ _ | exact Kd.N_nil _ _ _ _ _ | exact Kd.V_nil _ _ _ _ _ | exact Kd.Q_nil _ _ _ _ _ | exact Kd.S_nil _ _ _ _ _⟩, ⟨by (with_reducible repeat (first | refine blk_drewN ?_ _ | refine blk_drew ?_ | refine blk_alloc ?_ _)); exact BK435.out⟩, ⟨by repeat (first | (with_reducible first | exact HB.out | apply below_alloc | apply pw_below_drewN | apply below_drew1 | refine below_set ?_ GE435.out) | exact HB.out)⟩⟩
     case round =>
      clear H'
      try clear c1; try clear c2; try clear p2; try clear c6; try clear c11; try clear c12; try clear c12b0; try clear c12b1; try clear c13; try clear c13b0; try clear c13b1; try clear c27; try clear hcz14_0; try clear hcz14_1; try clear hcz14_2; try clear hcz16_0; try clear hcz16_1; try clear hcz16_2; try clear hcz18_0; try clear hcz18_1; try clear hcz18_2; try clear hcz20_0; try clear hcz20_1; try clear hcz20_2; try clear hcz22_0; try clear hcz22_1; try clear hcz22_2; try clear hcz24_0; try clear hcz24_1; try clear hcz24_2; try clear hcz25_0; try clear hcz25_1; try clear hcz25_2; try clear hfz14_0; try clear hfz14_1; try clear hfz14_2; try clear hfz16_0; try clear hfz16_1; try clear hfz16_2; try clear hfz18_0; try clear hfz18_1; try clear hfz18_2; try clear hfz20_0; try clear hfz20_1; try clear hfz20_2; try clear hfz22_0; try clear hfz22_1; try clear hfz22_2; try clear hfz24_0; try clear hfz24_1; try clear hfz24_2; try clear hfz25_0; try clear hfz25_1; try clear hfz25_2; try clear p2
      obtain ⟨x9_2, x10_2, x11_2, x12_2, rfl, HA, HK2, HO_9, HO_10, HO_11, BK435, HB⟩ := hrel
      cases gk with
      | zero => exact absurd HA.out (by simp [leatlaw11_WindowHalves.l0])
      | succ k2 =>
       have H := HA.out
       clear HA
       simp only [leatlaw11_WindowHalves.l0] at H
       by_cases c28 : x12_2 < (l2.length : Int)
       ·rw [if_pos c28] at H
        have c28b0 : decide (x12_2 < (l2.length : Int)) = true := decide_eq_true c28
        clear c28
        by_cases c29 : 0 ≤ x12_2
        ·rw [if_pos c29] at H
         have c29b0 : decide (0 ≤ x12_2) = true := decide_eq_true c29
         clear c29
         replace H := Option.bind_eq_some_iff.mp H
         obtain ⟨t450, A300, H⟩ := H
         replace H : (if t450 = true then ((window_Put.f k2 a0_0 a0_1 a0_2 a1 x9_2 ((rd_T37 l2 x12_2).f0) ((rd_T37 l2 x12_2).f1) ((rd_T37 l2 x12_2).f2)).bind fun t452 => (if 0 ≤ (Go.bits .and .i64 x12_2 63) then (if (Go.bits .and .u64 (shr .u64 a3 (Go.bits .and .i64 x12_2 63)) 1) = 0 then ((window_Put.f k2 a0_0 a0_1 a0_2 a1 x10_2 ((rd_T37 l2 x12_2).f0) ((rd_T37 l2 x12_2).f1) ((rd_T37 l2 x12_2).f2)).bind fun t456 => (leatlaw11_WindowHalves.l0 k2 a1 l2 a3 t452 t456 x11_2 (wrap64 (x12_2 + 1)) a0_0 a0_1 a0_2)) else ((window_Put.f k2 a0_0 a0_1 a0_2 a1 x11_2 ((rd_T37 l2 x12_2).f0) ((rd_T37 l2 x12_2).f1) ((rd_T37 l2 x12_2).f2)).bind fun t460 => (leatlaw11_WindowHalves.l0 k2 a1 l2 a3 t452 x10_2 t460 (wrap64 (x12_2 + 1)) a0_0 a0_1 a0_2))) else (none))) else (some true)) = some r := H
         have A30 := Aside0.mk A300
         clear A300
         by_cases c31 : t450 = true
         ·subst c31
          have H1 : ((window_Put.f k2 a0_0 a0_1 a0_2 a1 x9_2 ((rd_T37 l2 x12_2).f0) ((rd_T37 l2 x12_2).f1) ((rd_T37 l2 x12_2).f2)).bind fun t452 => (if 0 ≤ (Go.bits .and .i64 x12_2 63) then (if (Go.bits .and .u64 (shr .u64 a3 (Go.bits .and .i64 x12_2 63)) 1) = 0 then ((window_Put.f k2 a0_0 a0_1 a0_2 a1 x10_2 ((rd_T37 l2 x12_2).f0) ((rd_T37 l2 x12_2).f1) ((rd_T37 l2 x12_2).f2)).bind fun t456 => (leatlaw11_WindowHalves.l0 k2 a1 l2 a3 t452 t456 x11_2 (wrap64 (x12_2 + 1)) a0_0 a0_1 a0_2)) else ((window_Put.f k2 a0_0 a0_1 a0_2 a1 x11_2 ((rd_T37 l2 x12_2).f0) ((rd_T37 l2 x12_2).f1) ((rd_T37 l2 x12_2).f2)).bind fun t460 => (leatlaw11_WindowHalves.l0 k2 a1 l2 a3 t452 x10_2 t460 (wrap64 (x12_2 + 1)) a0_0 a0_1 a0_2))) else (none))) = some r := by rw [if_pos rfl] at H; exact H
          clear H
          have H := H1
          clear H1
          replace H := Option.bind_eq_some_iff.mp H
          obtain ⟨t452, A320, H⟩ := H
          replace H : (if 0 ≤ (Go.bits .and .i64 x12_2 63) then (if (Go.bits .and .u64 (shr .u64 a3 (Go.bits .and .i64 x12_2 63)) 1) = 0 then ((window_Put.f k2 a0_0 a0_1 a0_2 a1 x10_2 ((rd_T37 l2 x12_2).f0) ((rd_T37 l2 x12_2).f1) ((rd_T37 l2 x12_2).f2)).bind fun t456 => (leatlaw11_WindowHalves.l0 k2 a1 l2 a3 t452 t456 x11_2 (wrap64 (x12_2 + 1)) a0_0 a0_1 a0_2)) else ((window_Put.f k2 a0_0 a0_1 a0_2 a1 x11_2 ((rd_T37 l2 x12_2).f0) ((rd_T37 l2 x12_2).f1) ((rd_T37 l2 x12_2).f2)).bind fun t460 => (leatlaw11_WindowHalves.l0 k2 a1 l2 a3 t452 x10_2 t460 (wrap64 (x12_2 + 1)) a0_0 a0_1 a0_2))) else (none)) = some r := H
          have A32 := Aside0.mk A320
          clear A320
          by_cases c33 : 0 ≤ (Go.bits .and .i64 x12_2 63)
          ·rw [if_pos c33] at H
           have c33b0 := eq_true c33
           have c33b1 : decide (0 ≤ (Go.bits .and .i64 x12_2 63)) = true := decide_eq_true c33
           clear c33
           obtain ⟨ji34, hji34⟩ : ∃ j_ : Int, (shr .u64 a3 (Go.bits .and .i64 x12_2 63)) = j_ := ⟨_, rfl⟩
           replace H : (if (Go.bits .and .u64 (ji34) 1) = 0 then ((window_Put.f k2 a0_0 a0_1 a0_2 a1 x10_2 ((rd_T37 l2 x12_2).f0) ((rd_T37 l2 x12_2).f1) ((rd_T37 l2 x12_2).f2)).bind fun t456 => (leatlaw11_WindowHalves.l0 k2 a1 l2 a3 t452 t456 x11_2 (wrap64 (x12_2 + 1)) a0_0 a0_1 a0_2)) else ((window_Put.f k2 a0_0 a0_1 a0_2 a1 x11_2 ((rd_T37 l2 x12_2).f0) ((rd_T37 l2 x12_2).f1) ((rd_T37 l2 x12_2).f2)).bind fun t460 => (leatlaw11_WindowHalves.l0 k2 a1 l2 a3 t452 x10_2 t460 (wrap64 (x12_2 + 1)) a0_0 a0_1 a0_2))) = some r := by first | (rw [hji34] at H; exact H) | (simp only [hji34] at H ⊢; exact H)
           (try rw [hji34] at A30)
           (try rw [hji34] at A32)
           have hji34_ : (a3 / 2 ^ min (Go.bits .and .i64 x12_2 63).toNat 64) = ji34 := hji34
           have hji34z : (Go.bits .and .i64 x12_2 63) ≤ 64 → (a3 / 2 ^ (Go.bits .and .i64 x12_2 63).toNat) = ji34 := shr_small hji34
           by_cases c35 : (Go.bits .and .u64 (ji34) 1) = 0
           ·rw [if_pos c35] at H
            have c35b0 : ((Go.bits .and .u64 (ji34) 1) == 0) = true := beq_iff_eq.mpr c35
            have c35b1 : ((Go.bits .and .u64 (ji34) 1) != 0) = false := bne_eq_false_iff_eq.mpr c35
            clear c35
            replace H := Option.bind_eq_some_iff.mp H
            obtain ⟨t456, A360, H⟩ := H
            replace H : (leatlaw11_WindowHalves.l0 k2 a1 l2 a3 t452 t456 x11_2 (wrap64 (x12_2 + 1)) a0_0 a0_1 a0_2) = some r := H
            have A36 := Aside0.mk A360
            clear A360
            have H' := Aside0.mk H
            clear H
            have p449 : 0 ≤ (x12_2 : Int) := of_decide_eq_true (by first | (with_reducible assumption) | assumption)
            have q449 : x12_2 < (l2.length : Int) := of_decide_eq_true (by first | (with_reducible assumption) | assumption)
            obtain ⟨ad449, e449, hx449_0, hx449_1, hx449_2⟩ := at_T37 HR2.out x12_2 p449 q449
            cases e449
            replace hx449_0 := (HB.out.cell (World.block_lt_of_cell? w _ hx449_0)).trans hx449_0
            replace hx449_1 := (HB.out.cell (World.block_lt_of_cell? w _ hx449_1)).trans hx449_1
            replace hx449_2 := (HB.out.cell (World.block_lt_of_cell? w _ hx449_2)).trans hx449_2
            replace p449 := eq_true p449
            replace q449 := eq_true q449
            try go_wp2_with (first | ((with_reducible refine gate_callee (f := 14) rfl ?_); refine goesL_ (some 44) rfl rfl Try.func14 (by kernel_rfl) rfl #[.int .i64 ((rd_T37 l2 x12_2).f1)] rfl (by (try simp only [List.map_toArray, List.map_cons, List.map_nil]); first | done | rfl | (simp only [List.length_drop, List.length_take]; rfl)) ?_; (with_reducible refine (leatlaw11_time.calls ((rd_T37 l2 x12_2).f1) true _ A30.out).mono ?_); rintro e w' ⟨rfl, ⟨nd, rfl⟩⟩; refine ⟨_, rfl, ?_⟩))
            (try (rw [drewN_self wr]; generalize hq_ : World.drewN wr _ = wr; have n0_ : Aside0 (Kd.R k46 46 wr w.heap.size (fun k_ => some k_ ≠ (u11 : Value).ownBlock ∧ some k_ ≠ (u9 : Value).ownBlock) u10 x10_2) := ⟨by rw [← hq_]; exact (by (with_reducible repeat (first | apply Kd.R_alloc | apply Kd.R_drewN | apply Kd.R_drew)); exact Kd.R_mono HO_10.out (fun _ hk => ⟨hk.2, hk.1⟩))⟩; have n1_ : Aside0 (Kd.R k46 46 wr w.heap.size (fun k_ => some k_ ≠ (u10 : Value).ownBlock ∧ some k_ ≠ (u9 : Value).ownBlock) u11 x11_2) := ⟨by rw [← hq_]; exact (by (with_reducible repeat (first | apply Kd.R_alloc | apply Kd.R_drewN | apply Kd.R_drew)); exact Kd.R_mono HO_11.out (fun _ hk => ⟨hk.2, hk.1⟩))⟩; have n2_ : Aside0 (Kd.R k46 46 wr w.heap.size (fun k_ => some k_ ≠ (u10 : Value).ownBlock ∧ some k_ ≠ (u11 : Value).ownBlock) u9 x9_2) := ⟨by rw [← hq_]; exact (by (with_reducible repeat (first | apply Kd.R_alloc | apply Kd.R_drewN | apply Kd.R_drew)); exact HO_9.out)⟩; have n3_ : Aside0 (wr.heap[gb435]? = some (.cells #[.int .i64 a0_0, .int .i64 a0_1, .int .i64 a0_2] 23 (0, 0))) := ⟨by rw [← hq_]; exact (by (with_reducible repeat (first | refine blk_drewN ?_ _ | refine blk_drew ?_ | refine blk_alloc ?_ _)); exact BK435.out)⟩; have n4_ : Aside0 (Below w.heap.size w wr) := ⟨by rw [← hq_]; exact (by repeat (first | (with_reducible first | exact HB.out | apply below_alloc | apply pw_below_drewN | apply below_drew1 | refine below_set ?_ GE435.out) | exact HB.out))⟩; clear HO_10 HO_11 HO_9 BK435 HB hq_; have HO_10 := n0_; have HO_11 := n1_; have HO_9 := n2_; have BK435 := n3_; have HB := n4_; clear n0_ n1_ n2_ n3_ n4_))
            have n0_ := Aside0.mk (Kd.R_drew HO_9.out)
            have n1_ := Aside0.mk (Kd.R_drew HO_10.out)
            have n2_ := Aside0.mk (Kd.R_drew HO_11.out)
            have n3_ := Aside0.mk (blk_drew BK435.out)
            have n4_ := Aside0.mk (below_drew1 HB.out)
            clear HO_9
            clear HO_10
            clear HO_11
            clear BK435
            clear HB
            have HO_9 := n0_
            have HO_10 := n1_
            have HO_11 := n2_
            have BK435 := n3_
            have HB := n4_
            clear n0_ n1_ n2_ n3_ n4_
            have p451 : 0 ≤ (x12_2 : Int) := of_decide_eq_true (by first | (with_reducible assumption) | assumption)
            have q451 : x12_2 < (l2.length : Int) := of_decide_eq_true (by first | (with_reducible assumption) | assumption)
            obtain ⟨ad451, e451, hx451_0, hx451_1, hx451_2⟩ := at_T37 HR2.out x12_2 p451 q451
            have hw451_2 := hx451_2
            have hw451_1 := hx451_1
            have hw451_0 := hx451_0
            obtain rfl : ad449 = ad451 := (by injection e451)
            replace hx451_0 := (HB.out.cell (World.block_lt_of_cell? w _ hx451_0)).trans hx451_0
            replace hx451_1 := (HB.out.cell (World.block_lt_of_cell? w _ hx451_1)).trans hx451_1
            replace hx451_2 := (HB.out.cell (World.block_lt_of_cell? w _ hx451_2)).trans hx451_2
            replace p451 := eq_true p451
            replace q451 := eq_true q451
            obtain ⟨Ao38, co38, eo38⟩ := Kd.R_slice HO_9.out
            (first | subst eo38 | (injection eo38 with f1_ f2_ f3_; have f4_ := f1_.symm; have f5_ := f3_.symm; clear f1_ f2_ f3_; subst f4_; subst f5_))
            refine start_ (n := 9) (S := fun w' => w'.cell? ⟨gb435, 0, none⟩ = some (.int .i64 a0_0) ∧ w'.cell? ⟨gb435, 1, none⟩ = some (.int .i64 a0_1) ∧ w'.cell? ⟨gb435, 2, none⟩ = some (.int .i64 a0_2) ∧ w'.cell? (ad449.add ((x12_2).toNat * 3)) = some (.int .i64 ((rd_T37 l2 x12_2).f0)) ∧ w'.cell? ⟨(ad449.add ((x12_2).toNat * 3)).block, (ad449.add ((x12_2).toNat * 3)).off + 1, none⟩ = some (.int .i64 ((rd_T37 l2 x12_2).f1)) ∧ w'.cell? ⟨(ad449.add ((x12_2).toNat * 3)).block, (ad449.add ((x12_2).toNat * 3)).off + 2, none⟩ = some (.int .i64 ((rd_T37 l2 x12_2).f2))) (ds := []) #[false, false, false, false, false, false, false, false, false] (by kernel_rfl) rfl rfl ⟨(blk_cell BK435.out 0).trans rfl, (blk_cell BK435.out 1).trans rfl, (blk_cell BK435.out 2).trans rfl, ((HB.out.cell (World.block_lt_of_cell? w _ hw451_0)).trans hw451_0), ((HB.out.cell (World.block_lt_of_cell? w _ hw451_1)).trans hw451_1), ((HB.out.cell (World.block_lt_of_cell? w _ hw451_2)).trans hw451_2)⟩ (fun hHeld => ?_); refine with_tabW leatlaw11_WindowHalves.tab11 leatlaw11_WindowHalves.bits11 (fun HT_ HW_ => ?_)
            generalize wr.drew = w37 at HO_9 HO_10 HO_11 BK435 HB hx451_0 hx451_1 hx451_2 hHeld ⊢
            refine pure_ (i := 1) (N := some 47) (v := ?_) (a' := ?_) #[false, true, false, false, false, false, false, false, false] rfl rfl (any_of HT_.out (by kernel_rfl)) (fun _ _ _ h => h) (Or.inl ⟨by rfl, ?_⟩) ?_ ?_
            rotate_left
            ·intro w'
             go_simp
             with_reducible rfl
            rotate_left
            ·simp only [Act.put, List.setIfInBounds_toArray, List.set_cons_zero, List.set_cons_succ, i64_w, i32_w]
             rfl
            refine pure_ (i := 2) (N := some 48) (v := ?_) (a' := ?_) #[false, true, true, false, false, false, false, false, false] rfl rfl (any_of HT_.out (by kernel_rfl)) (fun _ _ _ h => h) (Or.inl ⟨by rfl, ?_⟩) ?_ ?_
            rotate_left
            ·intro w'
             go_simp
             with_reducible rfl
            rotate_left
            ·simp only [Act.put, List.setIfInBounds_toArray, List.set_cons_zero, List.set_cons_succ, i64_w, i32_w]
             rfl
            refine pure_ (i := 3) (N := some 49) (v := ?_) (a' := ?_) #[false, true, true, true, false, false, false, false, false] rfl rfl (any_of HT_.out (by kernel_rfl)) (fun _ _ _ h => h) (Or.inl ⟨by rfl, ?_⟩) ?_ ?_
            rotate_left
            ·intro w'
             go_simp
             with_reducible rfl
            rotate_left
            ·simp only [Act.put, List.setIfInBounds_toArray, List.set_cons_zero, List.set_cons_succ, i64_w, i32_w]
             rfl
            refine pure_ (i := 4) (N := some 50) (v := ?_) (a' := ?_) #[false, true, true, true, true, false, false, false, false] rfl rfl (any_of HT_.out (by kernel_rfl)) (fun _ _ _ h => h) (Or.inl ⟨by rfl, ?_⟩) ?_ ?_
            rotate_left
            ·intro w'
             go_simp
             with_reducible rfl
            rotate_left
            ·simp only [Act.put, List.setIfInBounds_toArray, List.set_cons_zero, List.set_cons_succ, i64_w, i32_w]
             rfl
            refine pure_ (i := 5) (N := some 51) (v := ?_) (a' := ?_) #[false, true, true, true, true, true, false, false, false] rfl rfl (any_of HT_.out (by kernel_rfl)) (fun _ _ _ h => h) (Or.inl ⟨by rfl, ?_⟩) ?_ ?_
            rotate_left
            ·intro w'
             go_simp
             with_reducible rfl
            rotate_left
            ·simp only [Act.put, List.setIfInBounds_toArray, List.set_cons_zero, List.set_cons_succ, i64_w, i32_w]
             rfl
            refine take_ (i := 0) (N := some 46) (v := ?_) (a' := ?_) #[true, true, true, true, true, true, false, false, false] rfl rfl (take_ofW HT_.out HW_.out (by kernel_rfl)) (fun _ _ _ h => h) (Or.inl ⟨by rfl, ?_⟩) hHeld ?_ ?_
            rotate_left
            ·rintro w' ⟨s0, s1, s2, s3, s4, s5⟩
             go_simp
             with_reducible rfl
            rotate_left
            ·simp only [Act.put, List.setIfInBounds_toArray, List.set_cons_zero, List.set_cons_succ, i64_w, i32_w]
             rfl
            refine take_ (i := 6) (N := some 52) (v := ?_) (a' := ?_) #[true, true, true, true, true, true, true, false, false] rfl rfl (take_ofW HT_.out HW_.out (by kernel_rfl)) (fun _ _ _ h => h) (Or.inl ⟨by rfl, ?_⟩) hHeld ?_ ?_
            rotate_left
            ·rintro w' ⟨s0, s1, s2, s3, s4, s5⟩
             go_simp
             with_reducible rfl
            rotate_left
            ·simp only [Act.put, List.setIfInBounds_toArray, List.set_cons_zero, List.set_cons_succ, i64_w, i32_w]
             rfl
            refine one_ (i := 7) (N := some 53) #[true, true, true, true, true, true, true, true, false] rfl rfl (one_of HT_.out (by kernel_rfl)) (by decide) (fun K hK => ?_)
            refine goes_ Try.func18 (by kernel_rfl) rfl #[.agg #[.int .i64 a0_0, .int .i64 a0_1, .int .i64 a0_2], .int .i64 a1, .slice Ao38 x9_2.length co38, .agg #[.int .i64 ((rd_T37 l2 x12_2).f0), .int .i64 ((rd_T37 l2 x12_2).f1), .int .i64 ((rd_T37 l2 x12_2).f2)]] (by rfl) rfl rfl (by (try simp only [List.map_toArray, List.map_cons, List.map_nil]); first | done | rfl | (simp only [List.length_drop, List.length_take]; rfl)) ?_
            with_reducible refine (window_Put.calls k2 a0_0 a0_1 a0_2 a1 _ _ x9_2 ((rd_T37 l2 x12_2).f0) ((rd_T37 l2 x12_2).f1) ((rd_T37 l2 x12_2).f2) t452 _ ?side1 ?side2 A32.out).mono ?_
            (case side1 => repeat (first | exact (Kd.R_reads' HO_9.out).2.2 | (with_reducible refine Kd.C_alloc ?_ _) | (with_reducible refine Kd.C_drewN ?_ _) | (with_reducible refine Kd.C_drew ?_)))
            (case side2 => exact (Kd.R_reads' HO_9.out).2.1)
            rintro e w39 ⟨v453, rfl, ho0, hb⟩
            refine ⟨_, rfl, ?_⟩
            have n0_ := Aside0.mk (Kd.R_elder' (by (with_reducible repeat (first | apply Kd.R_alloc | apply Kd.R_drewN | apply Kd.R_drew)); exact HO_9.out) (Kd.R_base ho0) hb)
            have n1_ := Aside0.mk (Kd.R_elder' (by (with_reducible repeat (first | apply Kd.R_alloc | apply Kd.R_drewN | apply Kd.R_drew)); exact HO_10.out) (Kd.R_base ho0) hb)
            have n2_ := Aside0.mk (Kd.R_elder' (by (with_reducible repeat (first | apply Kd.R_alloc | apply Kd.R_drewN | apply Kd.R_drew)); exact HO_11.out) (Kd.R_base ho0) hb)
            have n3_ := Aside0.mk (Kd.R_lower (Kd.R_new' (Kd.R_new' (Kd.R_new' ho0 (Kd.R_lt (by (with_reducible repeat (first | apply Kd.R_alloc | apply Kd.R_drewN | apply Kd.R_drew)); exact HO_9.out))) (Kd.R_lt (by (with_reducible repeat (first | apply Kd.R_alloc | apply Kd.R_drewN | apply Kd.R_drew)); exact HO_10.out))) (Kd.R_lt (by (with_reducible repeat (first | apply Kd.R_alloc | apply Kd.R_drewN | apply Kd.R_drew)); exact HO_11.out))) (below_size (by repeat (first | (with_reducible first | exact HB.out | apply below_alloc | apply pw_below_drewN | apply below_drew1 | refine below_set ?_ GE435.out) | exact HB.out))))
            have n4_ := Aside0.mk (blk_below (g := gb435) (o := .cells #[.int .i64 a0_0, .int .i64 a0_1, .int .i64 a0_2] 23 (0, 0)) (by (with_reducible repeat (first | refine blk_drewN ?_ _ | refine blk_drew ?_ | refine blk_alloc ?_ _)); exact BK435.out) hb)
            have n5_ := Aside0.mk (below_step (by repeat (first | (with_reducible first | exact HB.out | apply below_alloc | apply pw_below_drewN | apply below_drew1 | refine below_set ?_ GE435.out) | exact HB.out)) hb)
            clear HO_9
            clear HO_10
            clear HO_11
            clear BK435
            clear HB
            have HO_9 := n0_
            have HO_10 := n1_
            have HO_11 := n2_
            have HO454 := n3_
            have BK435 := n4_
            have HB := n5_
            clear n0_ n1_ n2_ n3_ n4_ n5_
            (try clear hb)
            (try clear hb2)
            (try clear hk)
            (try clear hi)
            (try clear ho0)
            refine hK.out _ _ ⟨(blk_cell BK435.out 0).trans rfl, (blk_cell BK435.out 1).trans rfl, (blk_cell BK435.out 2).trans rfl, ((HB.out.cell (World.block_lt_of_cell? w _ hw451_0)).trans hw451_0), ((HB.out.cell (World.block_lt_of_cell? w _ hw451_1)).trans hw451_1), ((HB.out.cell (World.block_lt_of_cell? w _ hw451_2)).trans hw451_2)⟩ (fun hHeld => ?_)
            clear hK K
            refine norm_ (a' := ?_) ?_ ?_
            rotate_left
            ·show Act.put _ (some 53) _ = _
             simp only [Act.put, List.setIfInBounds_toArray, List.set_cons_zero, List.set_cons_succ, i64_w, i32_w]
             rfl
            refine pure_ (i := 8) (N := some 9) (v := ?_) (a' := ?_) #[true, true, true, true, true, true, true, true, true] rfl rfl (any_of HT_.out (by kernel_rfl)) (fun _ _ _ h => h) (Or.inl ⟨by rfl, ?_⟩) ?_ ?_
            rotate_left
            ·intro w'
             go_simp
             with_reducible rfl
            rotate_left
            ·simp only [Act.put, List.setIfInBounds_toArray, List.set_cons_zero, List.set_cons_succ, i64_w, i32_w]
             rfl
            refine done_ (done_of HT_.out (by kernel_rfl)) ?_
            try go_wp2
            have n0_ := Aside0.mk (Kd.R_drew HO_9.out)
            have n1_ := Aside0.mk (Kd.R_drew HO_10.out)
            have n2_ := Aside0.mk (Kd.R_drew HO_11.out)
            have n3_ := Aside0.mk (Kd.R_drew HO454.out)
            have n4_ := Aside0.mk (blk_drew BK435.out)
            have n5_ := Aside0.mk (below_drew1 HB.out)
            clear HO_9
            clear HO_10
            clear HO_11
            clear HO454
            clear BK435
            clear HB
            have HO_9 := n0_
            have HO_10 := n1_
            have HO_11 := n2_
            have HO454 := n3_
            have BK435 := n4_
            have HB := n5_
            clear n0_ n1_ n2_ n3_ n4_ n5_
            have p455 : 0 ≤ (x12_2 : Int) := of_decide_eq_true (by first | (with_reducible assumption) | assumption)
            have q455 : x12_2 < (l2.length : Int) := of_decide_eq_true (by first | (with_reducible assumption) | assumption)
            obtain ⟨ad455, e455, hx455_0, hx455_1, hx455_2⟩ := at_T37 HR2.out x12_2 p455 q455
            have hw455_2 := hx455_2
            have hw455_1 := hx455_1
            have hw455_0 := hx455_0
            obtain rfl : ad449 = ad455 := (by injection e455)
            replace hx455_0 := (HB.out.cell (World.block_lt_of_cell? w _ hx455_0)).trans hx455_0
            replace hx455_1 := (HB.out.cell (World.block_lt_of_cell? w _ hx455_1)).trans hx455_1
            replace hx455_2 := (HB.out.cell (World.block_lt_of_cell? w _ hx455_2)).trans hx455_2
            replace p455 := eq_true p455
            replace q455 := eq_true q455
            obtain ⟨Ao41, co41, eo41⟩ := Kd.R_slice HO_10.out
            (first | subst eo41 | (injection eo41 with f1_ f2_ f3_; have f4_ := f1_.symm; have f5_ := f3_.symm; clear f1_ f2_ f3_; subst f4_; subst f5_))
            refine start_ (n := 9) (S := fun w' => w'.cell? ⟨gb435, 0, none⟩ = some (.int .i64 a0_0) ∧ w'.cell? ⟨gb435, 1, none⟩ = some (.int .i64 a0_1) ∧ w'.cell? ⟨gb435, 2, none⟩ = some (.int .i64 a0_2) ∧ w'.cell? (ad449.add ((x12_2).toNat * 3)) = some (.int .i64 ((rd_T37 l2 x12_2).f0)) ∧ w'.cell? ⟨(ad449.add ((x12_2).toNat * 3)).block, (ad449.add ((x12_2).toNat * 3)).off + 1, none⟩ = some (.int .i64 ((rd_T37 l2 x12_2).f1)) ∧ w'.cell? ⟨(ad449.add ((x12_2).toNat * 3)).block, (ad449.add ((x12_2).toNat * 3)).off + 2, none⟩ = some (.int .i64 ((rd_T37 l2 x12_2).f2))) (ds := []) #[false, false, false, false, false, false, false, false, false] (by kernel_rfl) rfl rfl ⟨(blk_cell BK435.out 0).trans rfl, (blk_cell BK435.out 1).trans rfl, (blk_cell BK435.out 2).trans rfl, ((HB.out.cell (World.block_lt_of_cell? w _ hw455_0)).trans hw455_0), ((HB.out.cell (World.block_lt_of_cell? w _ hw455_1)).trans hw455_1), ((HB.out.cell (World.block_lt_of_cell? w _ hw455_2)).trans hw455_2)⟩ (fun hHeld => ?_); refine with_tabW leatlaw11_WindowHalves.tab13 leatlaw11_WindowHalves.bits13 (fun HT_ HW_ => ?_)
            generalize w39.drew = w40 at HO_9 HO_10 HO_11 HO454 BK435 HB hx455_0 hx455_1 hx455_2 hHeld ⊢
            refine pure_ (i := 1) (N := some 61) (v := ?_) (a' := ?_) #[false, true, false, false, false, false, false, false, false] rfl rfl (any_of HT_.out (by kernel_rfl)) (fun _ _ _ h => h) (Or.inl ⟨by rfl, ?_⟩) ?_ ?_
            rotate_left
            ·intro w'
             go_simp
             with_reducible rfl
            rotate_left
            ·simp only [Act.put, List.setIfInBounds_toArray, List.set_cons_zero, List.set_cons_succ, i64_w, i32_w]
             rfl
            refine pure_ (i := 2) (N := some 62) (v := ?_) (a' := ?_) #[false, true, true, false, false, false, false, false, false] rfl rfl (any_of HT_.out (by kernel_rfl)) (fun _ _ _ h => h) (Or.inl ⟨by rfl, ?_⟩) ?_ ?_
            rotate_left
            ·intro w'
             go_simp
             with_reducible rfl
            rotate_left
            ·simp only [Act.put, List.setIfInBounds_toArray, List.set_cons_zero, List.set_cons_succ, i64_w, i32_w]
             rfl
            refine pure_ (i := 3) (N := some 63) (v := ?_) (a' := ?_) #[false, true, true, true, false, false, false, false, false] rfl rfl (any_of HT_.out (by kernel_rfl)) (fun _ _ _ h => h) (Or.inl ⟨by rfl, ?_⟩) ?_ ?_
            rotate_left
            ·intro w'
             go_simp
             with_reducible rfl
            rotate_left
            ·simp only [Act.put, List.setIfInBounds_toArray, List.set_cons_zero, List.set_cons_succ, i64_w, i32_w]
             rfl
            refine pure_ (i := 4) (N := some 64) (v := ?_) (a' := ?_) #[false, true, true, true, true, false, false, false, false] rfl rfl (any_of HT_.out (by kernel_rfl)) (fun _ _ _ h => h) (Or.inl ⟨by rfl, ?_⟩) ?_ ?_
            rotate_left
            ·intro w'
             go_simp
             with_reducible rfl
            rotate_left
            ·simp only [Act.put, List.setIfInBounds_toArray, List.set_cons_zero, List.set_cons_succ, i64_w, i32_w]
             rfl
            refine pure_ (i := 5) (N := some 65) (v := ?_) (a' := ?_) #[false, true, true, true, true, true, false, false, false] rfl rfl (any_of HT_.out (by kernel_rfl)) (fun _ _ _ h => h) (Or.inl ⟨by rfl, ?_⟩) ?_ ?_
            rotate_left
            ·intro w'
             go_simp
             with_reducible rfl
            rotate_left
            ·simp only [Act.put, List.setIfInBounds_toArray, List.set_cons_zero, List.set_cons_succ, i64_w, i32_w]
             rfl
            refine take_ (i := 0) (N := some 60) (v := ?_) (a' := ?_) #[true, true, true, true, true, true, false, false, false] rfl rfl (take_ofW HT_.out HW_.out (by kernel_rfl)) (fun _ _ _ h => h) (Or.inl ⟨by rfl, ?_⟩) hHeld ?_ ?_
            rotate_left
            ·rintro w' ⟨s0, s1, s2, s3, s4, s5⟩
             go_simp
             with_reducible rfl
            rotate_left
            ·simp only [Act.put, List.setIfInBounds_toArray, List.set_cons_zero, List.set_cons_succ, i64_w, i32_w]
             rfl
            refine take_ (i := 6) (N := some 66) (v := ?_) (a' := ?_) #[true, true, true, true, true, true, true, false, false] rfl rfl (take_ofW HT_.out HW_.out (by kernel_rfl)) (fun _ _ _ h => h) (Or.inl ⟨by rfl, ?_⟩) hHeld ?_ ?_
            rotate_left
            ·rintro w' ⟨s0, s1, s2, s3, s4, s5⟩
             go_simp
             with_reducible rfl
            rotate_left
            ·simp only [Act.put, List.setIfInBounds_toArray, List.set_cons_zero, List.set_cons_succ, i64_w, i32_w]
             rfl
            refine one_ (i := 7) (N := some 67) #[true, true, true, true, true, true, true, true, false] rfl rfl (one_of HT_.out (by kernel_rfl)) (by decide) (fun K hK => ?_)
            refine goes_ Try.func18 (by kernel_rfl) rfl #[.agg #[.int .i64 a0_0, .int .i64 a0_1, .int .i64 a0_2], .int .i64 a1, .slice Ao41 x10_2.length co41, .agg #[.int .i64 ((rd_T37 l2 x12_2).f0), .int .i64 ((rd_T37 l2 x12_2).f1), .int .i64 ((rd_T37 l2 x12_2).f2)]] (by rfl) rfl rfl (by (try simp only [List.map_toArray, List.map_cons, List.map_nil]); first | done | rfl | (simp only [List.length_drop, List.length_take]; rfl)) ?_
            with_reducible refine (window_Put.calls k2 a0_0 a0_1 a0_2 a1 _ _ x10_2 ((rd_T37 l2 x12_2).f0) ((rd_T37 l2 x12_2).f1) ((rd_T37 l2 x12_2).f2) t456 _ ?side1 ?side2 A36.out).mono ?_
            (case side1 => repeat (first | exact (Kd.R_reads' HO_10.out).2.2 | (with_reducible refine Kd.C_alloc ?_ _) | (with_reducible refine Kd.C_drewN ?_ _) | (with_reducible refine Kd.C_drew ?_)))
            (case side2 => exact (Kd.R_reads' HO_10.out).2.1)
            rintro e w42 ⟨v457, rfl, ho0, hb⟩
            refine ⟨_, rfl, ?_⟩
            have n0_ := Aside0.mk (Kd.R_elder' (by (with_reducible repeat (first | apply Kd.R_alloc | apply Kd.R_drewN | apply Kd.R_drew)); exact HO_9.out) (Kd.R_base ho0) hb)
            have n1_ := Aside0.mk (Kd.R_elder' (by (with_reducible repeat (first | apply Kd.R_alloc | apply Kd.R_drewN | apply Kd.R_drew)); exact HO_10.out) (Kd.R_base ho0) hb)
            have n2_ := Aside0.mk (Kd.R_elder' (by (with_reducible repeat (first | apply Kd.R_alloc | apply Kd.R_drewN | apply Kd.R_drew)); exact HO_11.out) (Kd.R_base ho0) hb)
            have n3_ := Aside0.mk (Kd.R_elder' (by (with_reducible repeat (first | apply Kd.R_alloc | apply Kd.R_drewN | apply Kd.R_drew)); exact HO454.out) (Kd.R_base ho0) hb)
            have n4_ := Aside0.mk (Kd.R_lower (Kd.R_new' (Kd.R_new' (Kd.R_new' (Kd.R_new' ho0 (Kd.R_lt (by (with_reducible repeat (first | apply Kd.R_alloc | apply Kd.R_drewN | apply Kd.R_drew)); exact HO_9.out))) (Kd.R_lt (by (with_reducible repeat (first | apply Kd.R_alloc | apply Kd.R_drewN | apply Kd.R_drew)); exact HO_10.out))) (Kd.R_lt (by (with_reducible repeat (first | apply Kd.R_alloc | apply Kd.R_drewN | apply Kd.R_drew)); exact HO_11.out))) (Kd.R_lt (by (with_reducible repeat (first | apply Kd.R_alloc | apply Kd.R_drewN | apply Kd.R_drew)); exact HO454.out))) (below_size (by repeat (first | (with_reducible first | exact HB.out | apply below_alloc | apply pw_below_drewN | apply below_drew1 | refine below_set ?_ GE435.out) | exact HB.out))))
            have n5_ := Aside0.mk (blk_below (g := gb435) (o := .cells #[.int .i64 a0_0, .int .i64 a0_1, .int .i64 a0_2] 23 (0, 0)) (by (with_reducible repeat (first | refine blk_drewN ?_ _ | refine blk_drew ?_ | refine blk_alloc ?_ _)); exact BK435.out) hb)
            have n6_ := Aside0.mk (below_step (by repeat (first | (with_reducible first | exact HB.out | apply below_alloc | apply pw_below_drewN | apply below_drew1 | refine below_set ?_ GE435.out) | exact HB.out)) hb)
            clear HO_9
            clear HO_10
            clear HO_11
            clear HO454
            clear BK435
            clear HB
            have HO_9 := n0_
            have HO_10 := n1_
            have HO_11 := n2_
            have HO454 := n3_
            have HO458 := n4_
            have BK435 := n5_
            have HB := n6_
            clear n0_ n1_ n2_ n3_ n4_ n5_ n6_
            (try clear hb)
            (try clear hb2)
            (try clear hk)
            (try clear hi)
            (try clear ho0)
            refine hK.out _ _ ⟨(blk_cell BK435.out 0).trans rfl, (blk_cell BK435.out 1).trans rfl, (blk_cell BK435.out 2).trans rfl, ((HB.out.cell (World.block_lt_of_cell? w _ hw455_0)).trans hw455_0), ((HB.out.cell (World.block_lt_of_cell? w _ hw455_1)).trans hw455_1), ((HB.out.cell (World.block_lt_of_cell? w _ hw455_2)).trans hw455_2)⟩ (fun hHeld => ?_)
            clear hK K
            refine norm_ (a' := ?_) ?_ ?_
            rotate_left
            ·show Act.put _ (some 67) _ = _
             simp only [Act.put, List.setIfInBounds_toArray, List.set_cons_zero, List.set_cons_succ, i64_w, i32_w]
             rfl
            refine pure_ (i := 8) (N := some 10) (v := ?_) (a' := ?_) #[true, true, true, true, true, true, true, true, true] rfl rfl (any_of HT_.out (by kernel_rfl)) (fun _ _ _ h => h) (Or.inl ⟨by rfl, ?_⟩) ?_ ?_
            rotate_left
            ·intro w'
             go_simp
             with_reducible rfl
            rotate_left
            ·simp only [Act.put, List.setIfInBounds_toArray, List.set_cons_zero, List.set_cons_succ, i64_w, i32_w]
             rfl
            refine done_ (done_of HT_.out (by kernel_rfl)) ?_
            try go_wp2
            go_roundg k2
            case measure => have := HJ6.out; have := HK2.out; omega
            case rel => exact ⟨(t452), (t456), (x11_2), (wrap64 (x12_2 + 1)), (by first | rfl | (simp; done) | (simp [*]; done)), H', ⟨by have := HJ6.out; have := HK2.out; omega⟩, ⟨by (with_reducible repeat (first | apply Kd.R_alloc | apply Kd.R_drewN | apply Kd.R_drew)); exact Kd.R_mono HO454.out (fun _ hk => ⟨hk.2, hk.1.2⟩)⟩, ⟨by (with_reducible repeat (first | apply Kd.R_alloc | apply Kd.R_drewN | apply Kd.R_drew)); exact Kd.R_mono HO458.out (fun _ hk => ⟨hk.2, hk.1.2⟩)⟩, ⟨by (with_reducible repeat (first | apply Kd.R_alloc | apply Kd.R_drewN | apply Kd.R_drew)); exact Kd.R_mono HO_11.out (fun _ hk => ⟨hk.1.2, hk.2⟩)⟩, ⟨by (with_reducible repeat (first | refine blk_drewN ?_ _ | refine blk_drew ?_ | refine blk_alloc ?_ _)); exact BK435.out⟩, ⟨by repeat (first | (with_reducible first | exact HB.out | apply below_alloc | apply pw_below_drewN | apply below_drew1 | refine below_set ?_ GE435.out) | exact HB.out)⟩⟩
           ·rw [if_neg c35] at H
            have c35b0 : ((Go.bits .and .u64 (ji34) 1) == 0) = false := beq_eq_false_iff_ne.mpr c35
            have c35b1 : ((Go.bits .and .u64 (ji34) 1) != 0) = true := bne_iff_ne.mpr c35
            replace H := Option.bind_eq_some_iff.mp H
            obtain ⟨t460, A430, H⟩ := H
            replace H : (leatlaw11_WindowHalves.l0 k2 a1 l2 a3 t452 x10_2 t460 (wrap64 (x12_2 + 1)) a0_0 a0_1 a0_2) = some r := H
            have A43 := Aside0.mk A430
            clear A430
            have H' := Aside0.mk H
            clear H
            have p449 : 0 ≤ (x12_2 : Int) := of_decide_eq_true (by first | (with_reducible assumption) | assumption)
            have q449 : x12_2 < (l2.length : Int) := of_decide_eq_true (by first | (with_reducible assumption) | assumption)
            obtain ⟨ad449, e449, hx449_0, hx449_1, hx449_2⟩ := at_T37 HR2.out x12_2 p449 q449
            cases e449
            replace hx449_0 := (HB.out.cell (World.block_lt_of_cell? w _ hx449_0)).trans hx449_0
            replace hx449_1 := (HB.out.cell (World.block_lt_of_cell? w _ hx449_1)).trans hx449_1
            replace hx449_2 := (HB.out.cell (World.block_lt_of_cell? w _ hx449_2)).trans hx449_2
            replace p449 := eq_true p449
            replace q449 := eq_true q449
            try go_wp2_with (first | ((with_reducible refine gate_callee (f := 14) rfl ?_); refine goesL_ (some 44) rfl rfl Try.func14 (by kernel_rfl) rfl #[.int .i64 ((rd_T37 l2 x12_2).f1)] rfl (by (try simp only [List.map_toArray, List.map_cons, List.map_nil]); first | done | rfl | (simp only [List.length_drop, List.length_take]; rfl)) ?_; (with_reducible refine (leatlaw11_time.calls ((rd_T37 l2 x12_2).f1) true _ A30.out).mono ?_); rintro e w' ⟨rfl, ⟨nd, rfl⟩⟩; refine ⟨_, rfl, ?_⟩))
            (try (rw [drewN_self wr]; generalize hq_ : World.drewN wr _ = wr; have n0_ : Aside0 (Kd.R k46 46 wr w.heap.size (fun k_ => some k_ ≠ (u11 : Value).ownBlock ∧ some k_ ≠ (u9 : Value).ownBlock) u10 x10_2) := ⟨by rw [← hq_]; exact (by (with_reducible repeat (first | apply Kd.R_alloc | apply Kd.R_drewN | apply Kd.R_drew)); exact Kd.R_mono HO_10.out (fun _ hk => ⟨hk.2, hk.1⟩))⟩; have n1_ : Aside0 (Kd.R k46 46 wr w.heap.size (fun k_ => some k_ ≠ (u10 : Value).ownBlock ∧ some k_ ≠ (u9 : Value).ownBlock) u11 x11_2) := ⟨by rw [← hq_]; exact (by (with_reducible repeat (first | apply Kd.R_alloc | apply Kd.R_drewN | apply Kd.R_drew)); exact Kd.R_mono HO_11.out (fun _ hk => ⟨hk.2, hk.1⟩))⟩; have n2_ : Aside0 (Kd.R k46 46 wr w.heap.size (fun k_ => some k_ ≠ (u10 : Value).ownBlock ∧ some k_ ≠ (u11 : Value).ownBlock) u9 x9_2) := ⟨by rw [← hq_]; exact (by (with_reducible repeat (first | apply Kd.R_alloc | apply Kd.R_drewN | apply Kd.R_drew)); exact HO_9.out)⟩; have n3_ : Aside0 (wr.heap[gb435]? = some (.cells #[.int .i64 a0_0, .int .i64 a0_1, .int .i64 a0_2] 23 (0, 0))) := ⟨by rw [← hq_]; exact (by (with_reducible repeat (first | refine blk_drewN ?_ _ | refine blk_drew ?_ | refine blk_alloc ?_ _)); exact BK435.out)⟩; have n4_ : Aside0 (Below w.heap.size w wr) := ⟨by rw [← hq_]; exact (by repeat (first | (with_reducible first | exact HB.out | apply below_alloc | apply pw_below_drewN | apply below_drew1 | refine below_set ?_ GE435.out) | exact HB.out))⟩; clear HO_10 HO_11 HO_9 BK435 HB hq_; have HO_10 := n0_; have HO_11 := n1_; have HO_9 := n2_; have BK435 := n3_; have HB := n4_; clear n0_ n1_ n2_ n3_ n4_))
            have n0_ := Aside0.mk (Kd.R_drew HO_9.out)
            have n1_ := Aside0.mk (Kd.R_drew HO_10.out)
            have n2_ := Aside0.mk (Kd.R_drew HO_11.out)
            have n3_ := Aside0.mk (blk_drew BK435.out)
            have n4_ := Aside0.mk (below_drew1 HB.out)
            clear HO_9
            clear HO_10
            clear HO_11
            clear BK435
            clear HB
            have HO_9 := n0_
            have HO_10 := n1_
            have HO_11 := n2_
            have BK435 := n3_
            have HB := n4_
            clear n0_ n1_ n2_ n3_ n4_
            have p451 : 0 ≤ (x12_2 : Int) := of_decide_eq_true (by first | (with_reducible assumption) | assumption)
            have q451 : x12_2 < (l2.length : Int) := of_decide_eq_true (by first | (with_reducible assumption) | assumption)
            obtain ⟨ad451, e451, hx451_0, hx451_1, hx451_2⟩ := at_T37 HR2.out x12_2 p451 q451
            have hw451_2 := hx451_2
            have hw451_1 := hx451_1
            have hw451_0 := hx451_0
            obtain rfl : ad449 = ad451 := (by injection e451)
            replace hx451_0 := (HB.out.cell (World.block_lt_of_cell? w _ hx451_0)).trans hx451_0
            replace hx451_1 := (HB.out.cell (World.block_lt_of_cell? w _ hx451_1)).trans hx451_1
            replace hx451_2 := (HB.out.cell (World.block_lt_of_cell? w _ hx451_2)).trans hx451_2
            replace p451 := eq_true p451
            replace q451 := eq_true q451
            obtain ⟨Ao45, co45, eo45⟩ := Kd.R_slice HO_9.out
            (first | subst eo45 | (injection eo45 with f1_ f2_ f3_; have f4_ := f1_.symm; have f5_ := f3_.symm; clear f1_ f2_ f3_; subst f4_; subst f5_))
            refine start_ (n := 9) (S := fun w' => w'.cell? ⟨gb435, 0, none⟩ = some (.int .i64 a0_0) ∧ w'.cell? ⟨gb435, 1, none⟩ = some (.int .i64 a0_1) ∧ w'.cell? ⟨gb435, 2, none⟩ = some (.int .i64 a0_2) ∧ w'.cell? (ad449.add ((x12_2).toNat * 3)) = some (.int .i64 ((rd_T37 l2 x12_2).f0)) ∧ w'.cell? ⟨(ad449.add ((x12_2).toNat * 3)).block, (ad449.add ((x12_2).toNat * 3)).off + 1, none⟩ = some (.int .i64 ((rd_T37 l2 x12_2).f1)) ∧ w'.cell? ⟨(ad449.add ((x12_2).toNat * 3)).block, (ad449.add ((x12_2).toNat * 3)).off + 2, none⟩ = some (.int .i64 ((rd_T37 l2 x12_2).f2))) (ds := []) #[false, false, false, false, false, false, false, false, false] (by kernel_rfl) rfl rfl ⟨(blk_cell BK435.out 0).trans rfl, (blk_cell BK435.out 1).trans rfl, (blk_cell BK435.out 2).trans rfl, ((HB.out.cell (World.block_lt_of_cell? w _ hw451_0)).trans hw451_0), ((HB.out.cell (World.block_lt_of_cell? w _ hw451_1)).trans hw451_1), ((HB.out.cell (World.block_lt_of_cell? w _ hw451_2)).trans hw451_2)⟩ (fun hHeld => ?_); refine with_tabW leatlaw11_WindowHalves.tab11 leatlaw11_WindowHalves.bits11 (fun HT_ HW_ => ?_)
            generalize wr.drew = w44 at HO_9 HO_10 HO_11 BK435 HB hx451_0 hx451_1 hx451_2 hHeld ⊢
            refine pure_ (i := 1) (N := some 47) (v := ?_) (a' := ?_) #[false, true, false, false, false, false, false, false, false] rfl rfl (any_of HT_.out (by kernel_rfl)) (fun _ _ _ h => h) (Or.inl ⟨by rfl, ?_⟩) ?_ ?_
            rotate_left
            ·intro w'
             go_simp
             with_reducible rfl
            rotate_left
            ·simp only [Act.put, List.setIfInBounds_toArray, List.set_cons_zero, List.set_cons_succ, i64_w, i32_w]
             rfl
            refine pure_ (i := 2) (N := some 48) (v := ?_) (a' := ?_) #[false, true, true, false, false, false, false, false, false] rfl rfl (any_of HT_.out (by kernel_rfl)) (fun _ _ _ h => h) (Or.inl ⟨by rfl, ?_⟩) ?_ ?_
            rotate_left
            ·intro w'
             go_simp
             with_reducible rfl
            rotate_left
            ·simp only [Act.put, List.setIfInBounds_toArray, List.set_cons_zero, List.set_cons_succ, i64_w, i32_w]
             rfl
            refine pure_ (i := 3) (N := some 49) (v := ?_) (a' := ?_) #[false, true, true, true, false, false, false, false, false] rfl rfl (any_of HT_.out (by kernel_rfl)) (fun _ _ _ h => h) (Or.inl ⟨by rfl, ?_⟩) ?_ ?_
            rotate_left
            ·intro w'
             go_simp
             with_reducible rfl
            rotate_left
            ·simp only [Act.put, List.setIfInBounds_toArray, List.set_cons_zero, List.set_cons_succ, i64_w, i32_w]
             rfl
            refine pure_ (i := 4) (N := some 50) (v := ?_) (a' := ?_) #[false, true, true, true, true, false, false, false, false] rfl rfl (any_of HT_.out (by kernel_rfl)) (fun _ _ _ h => h) (Or.inl ⟨by rfl, ?_⟩) ?_ ?_
            rotate_left
            ·intro w'
             go_simp
             with_reducible rfl
            rotate_left
            ·simp only [Act.put, List.setIfInBounds_toArray, List.set_cons_zero, List.set_cons_succ, i64_w, i32_w]
             rfl
            refine pure_ (i := 5) (N := some 51) (v := ?_) (a' := ?_) #[false, true, true, true, true, true, false, false, false] rfl rfl (any_of HT_.out (by kernel_rfl)) (fun _ _ _ h => h) (Or.inl ⟨by rfl, ?_⟩) ?_ ?_
            rotate_left
            ·intro w'
             go_simp
             with_reducible rfl
            rotate_left
            ·simp only [Act.put, List.setIfInBounds_toArray, List.set_cons_zero, List.set_cons_succ, i64_w, i32_w]
             rfl
            refine take_ (i := 0) (N := some 46) (v := ?_) (a' := ?_) #[true, true, true, true, true, true, false, false, false] rfl rfl (take_ofW HT_.out HW_.out (by kernel_rfl)) (fun _ _ _ h => h) (Or.inl ⟨by rfl, ?_⟩) hHeld ?_ ?_
            rotate_left
            ·rintro w' ⟨s0, s1, s2, s3, s4, s5⟩
             go_simp
             with_reducible rfl
            rotate_left
            ·simp only [Act.put, List.setIfInBounds_toArray, List.set_cons_zero, List.set_cons_succ, i64_w, i32_w]
             rfl
            refine take_ (i := 6) (N := some 52) (v := ?_) (a' := ?_) #[true, true, true, true, true, true, true, false, false] rfl rfl (take_ofW HT_.out HW_.out (by kernel_rfl)) (fun _ _ _ h => h) (Or.inl ⟨by rfl, ?_⟩) hHeld ?_ ?_
            rotate_left
            ·rintro w' ⟨s0, s1, s2, s3, s4, s5⟩
             go_simp
             with_reducible rfl
            rotate_left
            ·simp only [Act.put, List.setIfInBounds_toArray, List.set_cons_zero, List.set_cons_succ, i64_w, i32_w]
             rfl
            refine one_ (i := 7) (N := some 53) #[true, true, true, true, true, true, true, true, false] rfl rfl (one_of HT_.out (by kernel_rfl)) (by decide) (fun K hK => ?_)
            refine goes_ Try.func18 (by kernel_rfl) rfl #[.agg #[.int .i64 a0_0, .int .i64 a0_1, .int .i64 a0_2], .int .i64 a1, .slice Ao45 x9_2.length co45, .agg #[.int .i64 ((rd_T37 l2 x12_2).f0), .int .i64 ((rd_T37 l2 x12_2).f1), .int .i64 ((rd_T37 l2 x12_2).f2)]] (by rfl) rfl rfl (by (try simp only [List.map_toArray, List.map_cons, List.map_nil]); first | done | rfl | (simp only [List.length_drop, List.length_take]; rfl)) ?_
            with_reducible refine (window_Put.calls k2 a0_0 a0_1 a0_2 a1 _ _ x9_2 ((rd_T37 l2 x12_2).f0) ((rd_T37 l2 x12_2).f1) ((rd_T37 l2 x12_2).f2) t452 _ ?side1 ?side2 A32.out).mono ?_
            (case side1 => repeat (first | exact (Kd.R_reads' HO_9.out).2.2 | (with_reducible refine Kd.C_alloc ?_ _) | (with_reducible refine Kd.C_drewN ?_ _) | (with_reducible refine Kd.C_drew ?_)))
            (case side2 => exact (Kd.R_reads' HO_9.out).2.1)
            rintro e w46 ⟨v453, rfl, ho0, hb⟩
            refine ⟨_, rfl, ?_⟩
            have n0_ := Aside0.mk (Kd.R_elder' (by (with_reducible repeat (first | apply Kd.R_alloc | apply Kd.R_drewN | apply Kd.R_drew)); exact HO_9.out) (Kd.R_base ho0) hb)
            have n1_ := Aside0.mk (Kd.R_elder' (by (with_reducible repeat (first | apply Kd.R_alloc | apply Kd.R_drewN | apply Kd.R_drew)); exact HO_10.out) (Kd.R_base ho0) hb)
            have n2_ := Aside0.mk (Kd.R_elder' (by (with_reducible repeat (first | apply Kd.R_alloc | apply Kd.R_drewN | apply Kd.R_drew)); exact HO_11.out) (Kd.R_base ho0) hb)
            have n3_ := Aside0.mk (Kd.R_lower (Kd.R_new' (Kd.R_new' (Kd.R_new' ho0 (Kd.R_lt (by (with_reducible repeat (first | apply Kd.R_alloc | apply Kd.R_drewN | apply Kd.R_drew)); exact HO_9.out))) (Kd.R_lt (by (with_reducible repeat (first | apply Kd.R_alloc | apply Kd.R_drewN | apply Kd.R_drew)); exact HO_10.out))) (Kd.R_lt (by (with_reducible repeat (first | apply Kd.R_alloc | apply Kd.R_drewN | apply Kd.R_drew)); exact HO_11.out))) (below_size (by repeat (first | (with_reducible first | exact HB.out | apply below_alloc | apply pw_below_drewN | apply below_drew1 | refine below_set ?_ GE435.out) | exact HB.out))))
            have n4_ := Aside0.mk (blk_below (g := gb435) (o := .cells #[.int .i64 a0_0, .int .i64 a0_1, .int .i64 a0_2] 23 (0, 0)) (by (with_reducible repeat (first | refine blk_drewN ?_ _ | refine blk_drew ?_ | refine blk_alloc ?_ _)); exact BK435.out) hb)
            have n5_ := Aside0.mk (below_step (by repeat (first | (with_reducible first | exact HB.out | apply below_alloc | apply pw_below_drewN | apply below_drew1 | refine below_set ?_ GE435.out) | exact HB.out)) hb)
            clear HO_9
            clear HO_10
            clear HO_11
            clear BK435
            clear HB
            have HO_9 := n0_
            have HO_10 := n1_
            have HO_11 := n2_
            have HO454 := n3_
            have BK435 := n4_
            have HB := n5_
            clear n0_ n1_ n2_ n3_ n4_ n5_
            (try clear hb)
            (try clear hb2)
            (try clear hk)
            (try clear hi)
            (try clear ho0)
            refine hK.out _ _ ⟨(blk_cell BK435.out 0).trans rfl, (blk_cell BK435.out 1).trans rfl, (blk_cell BK435.out 2).trans rfl, ((HB.out.cell (World.block_lt_of_cell? w _ hw451_0)).trans hw451_0), ((HB.out.cell (World.block_lt_of_cell? w _ hw451_1)).trans hw451_1), ((HB.out.cell (World.block_lt_of_cell? w _ hw451_2)).trans hw451_2)⟩ (fun hHeld => ?_)
            clear hK K
            refine norm_ (a' := ?_) ?_ ?_
            rotate_left
            ·show Act.put _ (some 53) _ = _
             simp only [Act.put, List.setIfInBounds_toArray, List.set_cons_zero, List.set_cons_succ, i64_w, i32_w]
             rfl
            refine pure_ (i := 8) (N := some 9) (v := ?_) (a' := ?_) #[true, true, true, true, true, true, true, true, true] rfl rfl (any_of HT_.out (by kernel_rfl)) (fun _ _ _ h => h) (Or.inl ⟨by rfl, ?_⟩) ?_ ?_
            rotate_left
            ·intro w'
             go_simp
             with_reducible rfl
            rotate_left
            ·simp only [Act.put, List.setIfInBounds_toArray, List.set_cons_zero, List.set_cons_succ, i64_w, i32_w]
             rfl
            refine done_ (done_of HT_.out (by kernel_rfl)) ?_
            try go_wp2
            have n0_ := Aside0.mk (Kd.R_drew HO_9.out)
            have n1_ := Aside0.mk (Kd.R_drew HO_10.out)
            have n2_ := Aside0.mk (Kd.R_drew HO_11.out)
            have n3_ := Aside0.mk (Kd.R_drew HO454.out)
            have n4_ := Aside0.mk (blk_drew BK435.out)
            have n5_ := Aside0.mk (below_drew1 HB.out)
            clear HO_9
            clear HO_10
            clear HO_11
            clear HO454
            clear BK435
            clear HB
            have HO_9 := n0_
            have HO_10 := n1_
            have HO_11 := n2_
            have HO454 := n3_
            have BK435 := n4_
            have HB := n5_
            clear n0_ n1_ n2_ n3_ n4_ n5_
            have p459 : 0 ≤ (x12_2 : Int) := of_decide_eq_true (by first | (with_reducible assumption) | assumption)
            have q459 : x12_2 < (l2.length : Int) := of_decide_eq_true (by first | (with_reducible assumption) | assumption)
            obtain ⟨ad459, e459, hx459_0, hx459_1, hx459_2⟩ := at_T37 HR2.out x12_2 p459 q459
            have hw459_2 := hx459_2
            have hw459_1 := hx459_1
            have hw459_0 := hx459_0
            obtain rfl : ad449 = ad459 := (by injection e459)
            replace hx459_0 := (HB.out.cell (World.block_lt_of_cell? w _ hx459_0)).trans hx459_0
            replace hx459_1 := (HB.out.cell (World.block_lt_of_cell? w _ hx459_1)).trans hx459_1
            replace hx459_2 := (HB.out.cell (World.block_lt_of_cell? w _ hx459_2)).trans hx459_2
            replace p459 := eq_true p459
            replace q459 := eq_true q459
            obtain ⟨Ao48, co48, eo48⟩ := Kd.R_slice HO_11.out
            (first | subst eo48 | (injection eo48 with f1_ f2_ f3_; have f4_ := f1_.symm; have f5_ := f3_.symm; clear f1_ f2_ f3_; subst f4_; subst f5_))
            refine start_ (n := 9) (S := fun w' => w'.cell? ⟨gb435, 0, none⟩ = some (.int .i64 a0_0) ∧ w'.cell? ⟨gb435, 1, none⟩ = some (.int .i64 a0_1) ∧ w'.cell? ⟨gb435, 2, none⟩ = some (.int .i64 a0_2) ∧ w'.cell? (ad449.add ((x12_2).toNat * 3)) = some (.int .i64 ((rd_T37 l2 x12_2).f0)) ∧ w'.cell? ⟨(ad449.add ((x12_2).toNat * 3)).block, (ad449.add ((x12_2).toNat * 3)).off + 1, none⟩ = some (.int .i64 ((rd_T37 l2 x12_2).f1)) ∧ w'.cell? ⟨(ad449.add ((x12_2).toNat * 3)).block, (ad449.add ((x12_2).toNat * 3)).off + 2, none⟩ = some (.int .i64 ((rd_T37 l2 x12_2).f2))) (ds := []) #[false, false, false, false, false, false, false, false, false] (by kernel_rfl) rfl rfl ⟨(blk_cell BK435.out 0).trans rfl, (blk_cell BK435.out 1).trans rfl, (blk_cell BK435.out 2).trans rfl, ((HB.out.cell (World.block_lt_of_cell? w _ hw459_0)).trans hw459_0), ((HB.out.cell (World.block_lt_of_cell? w _ hw459_1)).trans hw459_1), ((HB.out.cell (World.block_lt_of_cell? w _ hw459_2)).trans hw459_2)⟩ (fun hHeld => ?_); refine with_tabW leatlaw11_WindowHalves.tab14 leatlaw11_WindowHalves.bits14 (fun HT_ HW_ => ?_)
            generalize w46.drew = w47 at HO_9 HO_10 HO_11 HO454 BK435 HB hx459_0 hx459_1 hx459_2 hHeld ⊢
            refine pure_ (i := 1) (N := some 69) (v := ?_) (a' := ?_) #[false, true, false, false, false, false, false, false, false] rfl rfl (any_of HT_.out (by kernel_rfl)) (fun _ _ _ h => h) (Or.inl ⟨by rfl, ?_⟩) ?_ ?_
            rotate_left
            ·intro w'
             go_simp
             with_reducible rfl
            rotate_left
            ·simp only [Act.put, List.setIfInBounds_toArray, List.set_cons_zero, List.set_cons_succ, i64_w, i32_w]
             rfl
            refine pure_ (i := 2) (N := some 70) (v := ?_) (a' := ?_) #[false, true, true, false, false, false, false, false, false] rfl rfl (any_of HT_.out (by kernel_rfl)) (fun _ _ _ h => h) (Or.inl ⟨by rfl, ?_⟩) ?_ ?_
            rotate_left
            ·intro w'
             go_simp
             with_reducible rfl
            rotate_left
            ·simp only [Act.put, List.setIfInBounds_toArray, List.set_cons_zero, List.set_cons_succ, i64_w, i32_w]
             rfl
            refine pure_ (i := 3) (N := some 71) (v := ?_) (a' := ?_) #[false, true, true, true, false, false, false, false, false] rfl rfl (any_of HT_.out (by kernel_rfl)) (fun _ _ _ h => h) (Or.inl ⟨by rfl, ?_⟩) ?_ ?_
            rotate_left
            ·intro w'
             go_simp
             with_reducible rfl
            rotate_left
            ·simp only [Act.put, List.setIfInBounds_toArray, List.set_cons_zero, List.set_cons_succ, i64_w, i32_w]
             rfl
            refine pure_ (i := 4) (N := some 72) (v := ?_) (a' := ?_) #[false, true, true, true, true, false, false, false, false] rfl rfl (any_of HT_.out (by kernel_rfl)) (fun _ _ _ h => h) (Or.inl ⟨by rfl, ?_⟩) ?_ ?_
            rotate_left
            ·intro w'
             go_simp
             with_reducible rfl
            rotate_left
            ·simp only [Act.put, List.setIfInBounds_toArray, List.set_cons_zero, List.set_cons_succ, i64_w, i32_w]
             rfl
            refine pure_ (i := 5) (N := some 73) (v := ?_) (a' := ?_) #[false, true, true, true, true, true, false, false, false] rfl rfl (any_of HT_.out (by kernel_rfl)) (fun _ _ _ h => h) (Or.inl ⟨by rfl, ?_⟩) ?_ ?_
            rotate_left
            ·intro w'
             go_simp
             with_reducible rfl
            rotate_left
            ·simp only [Act.put, List.setIfInBounds_toArray, List.set_cons_zero, List.set_cons_succ, i64_w, i32_w]
             rfl
            refine take_ (i := 0) (N := some 68) (v := ?_) (a' := ?_) #[true, true, true, true, true, true, false, false, false] rfl rfl (take_ofW HT_.out HW_.out (by kernel_rfl)) (fun _ _ _ h => h) (Or.inl ⟨by rfl, ?_⟩) hHeld ?_ ?_
            rotate_left
            ·rintro w' ⟨s0, s1, s2, s3, s4, s5⟩
             go_simp
             with_reducible rfl
            rotate_left
            ·simp only [Act.put, List.setIfInBounds_toArray, List.set_cons_zero, List.set_cons_succ, i64_w, i32_w]
             rfl
            refine take_ (i := 6) (N := some 74) (v := ?_) (a' := ?_) #[true, true, true, true, true, true, true, false, false] rfl rfl (take_ofW HT_.out HW_.out (by kernel_rfl)) (fun _ _ _ h => h) (Or.inl ⟨by rfl, ?_⟩) hHeld ?_ ?_
            rotate_left
            ·rintro w' ⟨s0, s1, s2, s3, s4, s5⟩
             go_simp
             with_reducible rfl
            rotate_left
            ·simp only [Act.put, List.setIfInBounds_toArray, List.set_cons_zero, List.set_cons_succ, i64_w, i32_w]
             rfl
            refine one_ (i := 7) (N := some 75) #[true, true, true, true, true, true, true, true, false] rfl rfl (one_of HT_.out (by kernel_rfl)) (by decide) (fun K hK => ?_)
            refine goes_ Try.func18 (by kernel_rfl) rfl #[.agg #[.int .i64 a0_0, .int .i64 a0_1, .int .i64 a0_2], .int .i64 a1, .slice Ao48 x11_2.length co48, .agg #[.int .i64 ((rd_T37 l2 x12_2).f0), .int .i64 ((rd_T37 l2 x12_2).f1), .int .i64 ((rd_T37 l2 x12_2).f2)]] (by rfl) rfl rfl (by (try simp only [List.map_toArray, List.map_cons, List.map_nil]); first | done | rfl | (simp only [List.length_drop, List.length_take]; rfl)) ?_
            with_reducible refine (window_Put.calls k2 a0_0 a0_1 a0_2 a1 _ _ x11_2 ((rd_T37 l2 x12_2).f0) ((rd_T37 l2 x12_2).f1) ((rd_T37 l2 x12_2).f2) t460 _ ?side1 ?side2 A43.out).mono ?_
            (case side1 => repeat (first | exact (Kd.R_reads' HO_11.out).2.2 | (with_reducible refine Kd.C_alloc ?_ _) | (with_reducible refine Kd.C_drewN ?_ _) | (with_reducible refine Kd.C_drew ?_)))
            (case side2 => exact (Kd.R_reads' HO_11.out).2.1)
            rintro e w49 ⟨v461, rfl, ho0, hb⟩
            refine ⟨_, rfl, ?_⟩
            have n0_ := Aside0.mk (Kd.R_elder' (by (with_reducible repeat (first | apply Kd.R_alloc | apply Kd.R_drewN | apply Kd.R_drew)); exact HO_9.out) (Kd.R_base ho0) hb)
            have n1_ := Aside0.mk (Kd.R_elder' (by (with_reducible repeat (first | apply Kd.R_alloc | apply Kd.R_drewN | apply Kd.R_drew)); exact HO_10.out) (Kd.R_base ho0) hb)
            have n2_ := Aside0.mk (Kd.R_elder' (by (with_reducible repeat (first | apply Kd.R_alloc | apply Kd.R_drewN | apply Kd.R_drew)); exact HO_11.out) (Kd.R_base ho0) hb)
            have n3_ := Aside0.mk (Kd.R_elder' (by (with_reducible repeat (first | apply Kd.R_alloc | apply Kd.R_drewN | apply Kd.R_drew)); exact HO454.out) (Kd.R_base ho0) hb)
            have n4_ := Aside0.mk (Kd.R_lower (Kd.R_new' (Kd.R_new' (Kd.R_new' (Kd.R_new' ho0 (Kd.R_lt (by (with_reducible repeat (first | apply Kd.R_alloc | apply Kd.R_drewN | apply Kd.R_drew)); exact HO_9.out))) (Kd.R_lt (by (with_reducible repeat (first | apply Kd.R_alloc | apply Kd.R_drewN | apply Kd.R_drew)); exact HO_10.out))) (Kd.R_lt (by (with_reducible repeat (first | apply Kd.R_alloc | apply Kd.R_drewN | apply Kd.R_drew)); exact HO_11.out))) (Kd.R_lt (by (with_reducible repeat (first | apply Kd.R_alloc | apply Kd.R_drewN | apply Kd.R_drew)); exact HO454.out))) (below_size (by repeat (first | (with_reducible first | exact HB.out | apply below_alloc | apply pw_below_drewN | apply below_drew1 | refine below_set ?_ GE435.out) | exact HB.out))))
            have n5_ := Aside0.mk (blk_below (g := gb435) (o := .cells #[.int .i64 a0_0, .int .i64 a0_1, .int .i64 a0_2] 23 (0, 0)) (by (with_reducible repeat (first | refine blk_drewN ?_ _ | refine blk_drew ?_ | refine blk_alloc ?_ _)); exact BK435.out) hb)
            have n6_ := Aside0.mk (below_step (by repeat (first | (with_reducible first | exact HB.out | apply below_alloc | apply pw_below_drewN | apply below_drew1 | refine below_set ?_ GE435.out) | exact HB.out)) hb)
            clear HO_9
            clear HO_10
            clear HO_11
            clear HO454
            clear BK435
            clear HB
            have HO_9 := n0_
            have HO_10 := n1_
            have HO_11 := n2_
            have HO454 := n3_
            have HO462 := n4_
            have BK435 := n5_
            have HB := n6_
            clear n0_ n1_ n2_ n3_ n4_ n5_ n6_
            (try clear hb)
            (try clear hb2)
            (try clear hk)
            (try clear hi)
            (try clear ho0)
            refine hK.out _ _ ⟨(blk_cell BK435.out 0).trans rfl, (blk_cell BK435.out 1).trans rfl, (blk_cell BK435.out 2).trans rfl, ((HB.out.cell (World.block_lt_of_cell? w _ hw459_0)).trans hw459_0), ((HB.out.cell (World.block_lt_of_cell? w _ hw459_1)).trans hw459_1), ((HB.out.cell (World.block_lt_of_cell? w _ hw459_2)).trans hw459_2)⟩ (fun hHeld => ?_)
            clear hK K
            refine norm_ (a' := ?_) ?_ ?_
            rotate_left
            ·show Act.put _ (some 75) _ = _
             simp only [Act.put, List.setIfInBounds_toArray, List.set_cons_zero, List.set_cons_succ, i64_w, i32_w]
             rfl
            refine pure_ (i := 8) (N := some 11) (v := ?_) (a' := ?_) #[true, true, true, true, true, true, true, true, true] rfl rfl (any_of HT_.out (by kernel_rfl)) (fun _ _ _ h => h) (Or.inl ⟨by rfl, ?_⟩) ?_ ?_
            rotate_left
            ·intro w'
             go_simp
             with_reducible rfl
            rotate_left
            ·simp only [Act.put, List.setIfInBounds_toArray, List.set_cons_zero, List.set_cons_succ, i64_w, i32_w]
             rfl
            refine done_ (done_of HT_.out (by kernel_rfl)) ?_
            try go_wp2
            go_roundg k2
            case measure => have := HJ6.out; have := HK2.out; omega
            case rel => exact ⟨(t452), (x10_2), (t460), (wrap64 (x12_2 + 1)), (by first | rfl | (simp; done) | (simp [*]; done)), H', ⟨by have := HJ6.out; have := HK2.out; omega⟩, ⟨by (with_reducible repeat (first | apply Kd.R_alloc | apply Kd.R_drewN | apply Kd.R_drew)); exact Kd.R_mono HO454.out (fun _ hk => ⟨hk.1.1.2, hk.2⟩)⟩, ⟨by (with_reducible repeat (first | apply Kd.R_alloc | apply Kd.R_drewN | apply Kd.R_drew)); exact Kd.R_mono HO_10.out (fun _ hk => ⟨hk.1.2, hk.2⟩)⟩, ⟨by (with_reducible repeat (first | apply Kd.R_alloc | apply Kd.R_drewN | apply Kd.R_drew)); exact Kd.R_mono HO462.out (fun _ hk => ⟨hk.2, hk.1.1.2⟩)⟩, ⟨by (with_reducible repeat (first | refine blk_drewN ?_ _ | refine blk_drew ?_ | refine blk_alloc ?_ _)); exact BK435.out⟩, ⟨by repeat (first | (with_reducible first | exact HB.out | apply below_alloc | apply pw_below_drewN | apply below_drew1 | refine below_set ?_ GE435.out) | exact HB.out)⟩⟩
          ·rw [if_neg c33] at H
           exact absurd H (by simp)
         ·replace c31 := Bool.eq_false_iff.mpr c31
          subst c31
          have H1 : (some true) = some r := by rw [if_neg (show ¬ (false = true) by decide)] at H; exact H
          clear H
          have H := H1
          clear H1
          obtain rfl := Option.some.inj H
          have p449 : 0 ≤ (x12_2 : Int) := of_decide_eq_true (by first | (with_reducible assumption) | assumption)
          have q449 : x12_2 < (l2.length : Int) := of_decide_eq_true (by first | (with_reducible assumption) | assumption)
          obtain ⟨ad449, e449, hx449_0, hx449_1, hx449_2⟩ := at_T37 HR2.out x12_2 p449 q449
          cases e449
          replace hx449_0 := (HB.out.cell (World.block_lt_of_cell? w _ hx449_0)).trans hx449_0
          replace hx449_1 := (HB.out.cell (World.block_lt_of_cell? w _ hx449_1)).trans hx449_1
          replace hx449_2 := (HB.out.cell (World.block_lt_of_cell? w _ hx449_2)).trans hx449_2
          replace p449 := eq_true p449
          replace q449 := eq_true q449
          go_wp2_with (first | ((with_reducible refine gate_callee (f := 14) rfl ?_); refine goesL_ (some 44) rfl rfl Try.func14 (by kernel_rfl) rfl #[.int .i64 ((rd_T37 l2 x12_2).f1)] rfl (by (try simp only [List.map_toArray, List.map_cons, List.map_nil]); first | done | rfl | (simp only [List.length_drop, List.length_take]; rfl)) ?_; (with_reducible refine (leatlaw11_time.calls ((rd_T37 l2 x12_2).f1) false _ A30.out).mono ?_); rintro e w' ⟨rfl, ⟨nd, rfl⟩⟩; refine ⟨_, rfl, ?_⟩))
          go_ret
          exact ⟨by first | rfl | (simp [errW_none, errW_some] <;> rfl) | (simp [*, errW_none, errW_some] <;> rfl), by repeat (first | (with_reducible first | exact HB.out | apply below_alloc | apply pw_below_drewN | apply below_drew1 | refine below_set ?_ GE435.out) | exact HB.out)⟩
        ·rw [if_neg c29] at H
         exact absurd H (by simp)
       ·rw [if_neg c28] at H
        have c28b0 : decide (x12_2 < (l2.length : Int)) = false := decide_eq_false c28
        clear c28
        by_cases c50 : ([] : List (S46)).length + x11_2.length < 4398046511104
        ·rw [if_pos c50] at H
         have LMc50 := Aside0.mk c50
         clear c50
         obtain ⟨y439, hy439⟩ : ∃ y_ : List (S46), y_ = (([] : List (S46)) ++ x11_2) := ⟨_, rfl⟩
         replace H : (if y439.length + x10_2.length < 4398046511104 then ((window_Join.f a1 (y439 ++ x10_2)).bind fun t445 => ((leathelp_Panes.f k2 t445 x9_2).bind fun t448 => (some t448))) else (none)) = some r := by first | (rw [hy439]; with_reducible exact H) | (have H2_ := (Option.bind_some _ _).symm.trans H; rw [hy439]; with_reducible exact H2_) | (have H2_ := (Option.bind_some _ _).symm.trans H; with_reducible exact H2_) | with_reducible exact H | (rw [hy439]; exact H) | exact H
         have Ny439 := Aside0.mk hy439
         clear hy439
         by_cases c51 : y439.length + x10_2.length < 4398046511104
         ·rw [if_pos c51] at H
          have LMc51 := Aside0.mk c51
          clear c51
          obtain ⟨y442, hy442⟩ : ∃ y_ : List (S46), y_ = (y439 ++ x10_2) := ⟨_, rfl⟩
          replace H : ((window_Join.f a1 y442).bind fun t445 => ((leathelp_Panes.f k2 t445 x9_2).bind fun t448 => (some t448))) = some r := by first | (rw [hy442]; with_reducible exact H) | (have H2_ := (Option.bind_some _ _).symm.trans H; rw [hy442]; with_reducible exact H2_) | (have H2_ := (Option.bind_some _ _).symm.trans H; with_reducible exact H2_) | with_reducible exact H | (rw [hy442]; exact H) | exact H
          have Ny442 := Aside0.mk hy442
          clear hy442
          replace H := Option.bind_eq_some_iff.mp H
          obtain ⟨t445, A520, H⟩ := H
          replace H : ((leathelp_Panes.f k2 t445 x9_2).bind fun t448 => (some t448)) = some r := H
          have A52 := Aside0.mk A520
          clear A520
          replace H := Option.bind_eq_some_iff.mp H
          obtain ⟨t448, A530, H⟩ := H
          replace H : (some t448) = some r := H
          have A53 := Aside0.mk A530
          clear A530
          obtain rfl := Option.some.inj H
          obtain ⟨Ao55, co55, eo55⟩ := Kd.R_slice HO_11.out
          subst eo55
          go_wp2_with (first | ((with_reducible refine gate_builtin (b := .append) (xs := #[.const (.slice none 0 0), .tmp 77]) rfl ?_); (try (refine gate_guard (by rfl) ?_; dsimp only)); at_builtin; refine Kd.R_append_rows k46 (w0 := w) w.heap.size rfl (.const (.slice none 0 0)) (.tmp 77) 35 46 (.agg #[(.int .i64 0), (.int .i64 0), (.int .i64 0), (.int .i64 0)]) 32 rfl Try.underlying35 info46 rfl (by decide) (by omega) (.slice none 0 0) ([] : List (S46)) x11_2 _ _ _ (fun k_ => some k_ ≠ (u9 : Value).ownBlock ∧ some k_ ≠ (u10 : Value).ownBlock ∧ some k_ ≠ (.slice Ao55 x11_2.length co55 : Value).ownBlock) (fun _ => False) rfl rfl ?aO ?aR (fun _ _ h => h) (fun _ h => h.elim) ?aF ?aB ?aS ?aL ?_; (case aR => repeat (first | exact (Kd.R_reads' HO_11.out).2.2 | (with_reducible refine Kd.C_alloc ?_ _) | (with_reducible refine Kd.C_drewN ?_ _) | (with_reducible refine Kd.C_drew ?_))); (case aB => exact (by repeat (first | (with_reducible first | exact HB.out | apply below_alloc | apply pw_below_drewN | apply below_drew1 | refine below_set ?_ GE435.out) | exact HB.out))); (case aF => exact (fun k_ hk => ⟨Kd.fresh' (Kd.R_lt (by (with_reducible repeat (first | apply Kd.R_alloc | apply Kd.R_drewN | apply Kd.R_drew)); exact HO_9.out)) k_ hk, Kd.fresh' (Kd.R_lt (by (with_reducible repeat (first | apply Kd.R_alloc | apply Kd.R_drewN | apply Kd.R_drew)); exact HO_10.out)) k_ hk, Kd.fresh' (Kd.R_lt (by (with_reducible repeat (first | apply Kd.R_alloc | apply Kd.R_drewN | apply Kd.R_drew)); exact HO_11.out)) k_ hk⟩)); (case aO => exact ((Kd.R_nil _ _ _ _ (fun k_ => some k_ ≠ (u9 : Value).ownBlock ∧ some k_ ≠ (u10 : Value).ownBlock ∧ some k_ ≠ (.slice Ao55 x11_2.length co55 : Value).ownBlock)))); (case aS => exact (below_size (by repeat (first | (with_reducible first | exact HB.out | apply below_alloc | apply pw_below_drewN | apply below_drew1 | refine below_set ?_ GE435.out) | exact HB.out)))); (case aL => have := LMc50.out; omega); intro v440 w54 ho hb hg hat; rw [← Ny439.out] at ho; have n0_ := Aside0.mk (Kd.R_after (Kd.R_apart_nil (by (with_reducible repeat (first | apply Kd.R_alloc | apply Kd.R_drewN | apply Kd.R_drew)); exact HO_9.out)) hg hat); have n1_ := Aside0.mk (Kd.R_after (Kd.R_apart_nil (by (with_reducible repeat (first | apply Kd.R_alloc | apply Kd.R_drewN | apply Kd.R_drew)); exact HO_10.out)) hg hat); have n2_ := Aside0.mk (Kd.R_after (Kd.R_apart_nil (by (with_reducible repeat (first | apply Kd.R_alloc | apply Kd.R_drewN | apply Kd.R_drew)); exact HO_11.out)) hg hat); have n3_ := Aside0.mk (blk_grown (g := gb435) (o := .cells #[.int .i64 a0_0, .int .i64 a0_1, .int .i64 a0_2] 23 (0, 0)) (by (with_reducible repeat (first | refine blk_drewN ?_ _ | refine blk_drew ?_ | refine blk_alloc ?_ _)); exact BK435.out) hg (by simp [Value.ownBlock])); have n4_ := Aside0.mk (hb); have n5_ := Aside0.mk (ho); clear HO_9; clear HO_10; clear HO_11; clear BK435; clear HB; have HO_9 := n0_; have HO_10 := n1_; have HO_11 := n2_; have BK435 := n3_; have HB := n4_; have HO441 := n5_; clear n0_ n1_ n2_ n3_ n4_ n5_; clear ho hb hg hat; obtain ⟨Ao57, co57, eo57⟩ := Kd.R_slice HO_10.out; subst eo57) | ((with_reducible refine gate_builtin (b := .append) (xs := #[.tmp 78, .tmp 79]) rfl ?_); (try (refine gate_guard (by rfl) ?_; dsimp only)); at_builtin; refine Kd.R_append_rows k46 (w0 := w) w.heap.size rfl (.tmp 78) (.tmp 79) 35 46 (.agg #[(.int .i64 0), (.int .i64 0), (.int .i64 0), (.int .i64 0)]) 32 rfl Try.underlying35 info46 rfl (by decide) (by omega) v440 y439 x10_2 _ _ _ (fun k_ => some k_ ≠ (u9 : Value).ownBlock ∧ some k_ ≠ (.slice Ao57 x10_2.length co57 : Value).ownBlock ∧ some k_ ≠ (.slice Ao55 x11_2.length co55 : Value).ownBlock) (fun _ => False) rfl rfl ?aO ?aR (fun _ _ h => h) (fun _ h => h.elim) ?aF ?aB ?aS ?aL ?_; (case aR => repeat (first | exact (Kd.R_reads' HO_10.out).2.2 | (with_reducible refine Kd.C_alloc ?_ _) | (with_reducible refine Kd.C_drewN ?_ _) | (with_reducible refine Kd.C_drew ?_))); (case aB => exact (by repeat (first | (with_reducible first | exact HB.out | apply below_alloc | apply pw_below_drewN | apply below_drew1 | refine below_set ?_ GE435.out) | exact HB.out))); (case aF => exact (fun k_ hk => ⟨Kd.fresh' (Kd.R_lt (by (with_reducible repeat (first | apply Kd.R_alloc | apply Kd.R_drewN | apply Kd.R_drew)); exact HO_9.out)) k_ hk, Kd.fresh' (Kd.R_lt (by (with_reducible repeat (first | apply Kd.R_alloc | apply Kd.R_drewN | apply Kd.R_drew)); exact HO_10.out)) k_ hk, Kd.fresh' (Kd.R_lt (by (with_reducible repeat (first | apply Kd.R_alloc | apply Kd.R_drewN | apply Kd.R_drew)); exact HO_11.out)) k_ hk⟩)); (case aO => exact (by (with_reducible repeat (first | apply Kd.R_alloc | apply Kd.R_drewN | apply Kd.R_drew)); exact HO441.out)); (case aS => exact (below_size (by repeat (first | (with_reducible first | exact HB.out | apply below_alloc | apply pw_below_drewN | apply below_drew1 | refine below_set ?_ GE435.out) | exact HB.out)))); (case aL => have := LMc51.out; omega); intro v443 w56 ho hb hg hat; rw [← Ny442.out] at ho; have n0_ := Aside0.mk (Kd.R_after (ok := (fun k_ => some k_ ≠ (.slice Ao57 x10_2.length co57 : Value).ownBlock ∧ some k_ ≠ (.slice Ao55 x11_2.length co55 : Value).ownBlock)) (by (with_reducible repeat (first | apply Kd.R_alloc | apply Kd.R_drewN | apply Kd.R_drew)); exact HO_9.out) hg hat); have n1_ := Aside0.mk (Kd.R_after (ok := (fun k_ => some k_ ≠ (u9 : Value).ownBlock ∧ some k_ ≠ (.slice Ao55 x11_2.length co55 : Value).ownBlock)) (by (with_reducible repeat (first | apply Kd.R_alloc | apply Kd.R_drewN | apply Kd.R_drew)); exact HO_10.out) hg hat); have n2_ := Aside0.mk (Kd.R_after (ok := (fun k_ => some k_ ≠ (u9 : Value).ownBlock ∧ some k_ ≠ (.slice Ao57 x10_2.length co57 : Value).ownBlock)) (by (with_reducible repeat (first | apply Kd.R_alloc | apply Kd.R_drewN | apply Kd.R_drew)); exact HO_11.out) hg hat); have n3_ := Aside0.mk (blk_grown (g := gb435) (o := .cells #[.int .i64 a0_0, .int .i64 a0_1, .int .i64 a0_2] 23 (0, 0)) (by (with_reducible repeat (first | refine blk_drewN ?_ _ | refine blk_drew ?_ | refine blk_alloc ?_ _)); exact BK435.out) hg (Kd.R_ne HO441.out BK435.out (by decide))); have n4_ := Aside0.mk (hb); have n5_ := Aside0.mk (ho); clear HO_9; clear HO_10; clear HO_11; clear BK435; clear HB; clear HO441; have HO_9 := n0_; have HO_10 := n1_; have HO_11 := n2_; have BK435 := n3_; have HB := n4_; have HO444 := n5_; clear n0_ n1_ n2_ n3_ n4_ n5_; clear ho hb hg hat; obtain ⟨Ao58, co58, eo58⟩ := Kd.R_slice HO444.out; subst eo58) | ((with_reducible refine gate_callee (f := 28) rfl ?_); refine goesL_ (some 81) rfl rfl Try.func28 (by kernel_rfl) rfl #[.int .i64 a1, .slice Ao58 y442.length co58] rfl (by (try simp only [List.map_toArray, List.map_cons, List.map_nil]); first | done | rfl | (simp only [List.length_drop, List.length_take]; rfl)) ?_; (with_reducible refine (window_Join.calls a1 _ _ y442 t445 _ ?side1 ?side2 A52.out).mono ?_); (case side1 => repeat (first | exact (Kd.R_reads' HO444.out).2.2 | (with_reducible refine Kd.C_alloc ?_ _) | (with_reducible refine Kd.C_drewN ?_ _) | (with_reducible refine Kd.C_drew ?_))); (case side2 => exact (Kd.R_reads' HO444.out).2.1); rintro e w59 ⟨v446, rfl, ho0, hb⟩; refine ⟨_, rfl, ?_⟩; have n0_ := Aside0.mk (Kd.R_elder' (by (with_reducible repeat (first | apply Kd.R_alloc | apply Kd.R_drewN | apply Kd.R_drew)); exact HO_9.out) (Kd.R_base ho0) hb); have n1_ := Aside0.mk (Kd.R_elder' (by (with_reducible repeat (first | apply Kd.R_alloc | apply Kd.R_drewN | apply Kd.R_drew)); exact HO_10.out) (Kd.R_base ho0) hb); have n2_ := Aside0.mk (Kd.R_elder' (by (with_reducible repeat (first | apply Kd.R_alloc | apply Kd.R_drewN | apply Kd.R_drew)); exact HO_11.out) (Kd.R_base ho0) hb); have n3_ := Aside0.mk (Kd.R_elder' (by (with_reducible repeat (first | apply Kd.R_alloc | apply Kd.R_drewN | apply Kd.R_drew)); exact HO444.out) (Kd.R_base ho0) hb); have n4_ := Aside0.mk (Kd.R_lower (Kd.R_new' (Kd.R_new' (Kd.R_new' (Kd.R_new' ho0 (Kd.R_lt (by (with_reducible repeat (first | apply Kd.R_alloc | apply Kd.R_drewN | apply Kd.R_drew)); exact HO_9.out))) (Kd.R_lt (by (with_reducible repeat (first | apply Kd.R_alloc | apply Kd.R_drewN | apply Kd.R_drew)); exact HO_10.out))) (Kd.R_lt (by (with_reducible repeat (first | apply Kd.R_alloc | apply Kd.R_drewN | apply Kd.R_drew)); exact HO_11.out))) (Kd.R_lt (by (with_reducible repeat (first | apply Kd.R_alloc | apply Kd.R_drewN | apply Kd.R_drew)); exact HO444.out))) (below_size (by repeat (first | (with_reducible first | exact HB.out | apply below_alloc | apply pw_below_drewN | apply below_drew1 | refine below_set ?_ GE435.out) | exact HB.out)))); have n5_ := Aside0.mk (blk_below (g := gb435) (o := .cells #[.int .i64 a0_0, .int .i64 a0_1, .int .i64 a0_2] 23 (0, 0)) (by (with_reducible repeat (first | refine blk_drewN ?_ _ | refine blk_drew ?_ | refine blk_alloc ?_ _)); exact BK435.out) hb); have n6_ := Aside0.mk (below_step (by repeat (first | (with_reducible first | exact HB.out | apply below_alloc | apply pw_below_drewN | apply below_drew1 | refine below_set ?_ GE435.out) | exact HB.out)) hb); clear HO_9; clear HO_10; clear HO_11; clear HO444; clear BK435; clear HB; have HO_9 := n0_; have HO_10 := n1_; have HO_11 := n2_; have HO444 := n3_; have HO447 := n4_; have BK435 := n5_; have HB := n6_; clear n0_ n1_ n2_ n3_ n4_ n5_ n6_; (try clear hb); (try clear hb2); (try clear hk); (try clear hi); (try clear ho0); obtain ⟨Ao60, co60, eo60⟩ := Kd.R_slice HO447.out; subst eo60; obtain ⟨Ao61, co61, eo61⟩ := Kd.R_slice HO_9.out; subst eo61) | ((with_reducible refine gate_callee (f := 19) rfl ?_); refine goesL_ (some 83) rfl rfl Try.func19 (by kernel_rfl) rfl #[.slice Ao60 t445.length co60, .slice Ao61 x9_2.length co61] rfl (by (try simp only [List.map_toArray, List.map_cons, List.map_nil]); first | done | rfl | (simp only [List.length_drop, List.length_take]; rfl)) ?_; (with_reducible refine (leathelp_Panes.calls k2 _ _ t445 _ _ x9_2 t448 _ ?side1 ?side2 ?side3 ?side4 A53.out).mono ?_); (case side1 => repeat (first | exact (Kd.R_reads' HO447.out).2.2 | (with_reducible refine Kd.C_alloc ?_ _) | (with_reducible refine Kd.C_drewN ?_ _) | (with_reducible refine Kd.C_drew ?_))); (case side2 => exact (Kd.R_reads' HO447.out).2.1); (case side3 => repeat (first | exact (Kd.R_reads' HO_9.out).2.2 | (with_reducible refine Kd.C_alloc ?_ _) | (with_reducible refine Kd.C_drewN ?_ _) | (with_reducible refine Kd.C_drew ?_))); (case side4 => exact (Kd.R_reads' HO_9.out).2.1); rintro e w' ⟨rfl, ⟨nd, rfl⟩⟩; refine ⟨_, rfl, ?_⟩))
          go_ret
          exact ⟨by first | rfl | (simp [errW_none, errW_some] <;> rfl) | (simp [*, errW_none, errW_some] <;> rfl), by repeat (first | (with_reducible first | exact HB.out | apply below_alloc | apply pw_below_drewN | apply below_drew1 | refine below_set ?_ GE435.out) | exact HB.out)⟩
         ·rw [if_neg c51] at H
          exact absurd H (by simp)
        ·rw [if_neg c50] at H
         exact absurd H (by simp)
 ·replace c6 := Bool.eq_false_iff.mpr c6
  subst c6
  have H1 : (none) = some r := by rw [if_neg (show ¬ (false = true) by decide)] at H; exact H
  clear H
  have H := H1
  clear H1
  exact absurd H (by simp)
end Go.Proofs.Ytdinbnbogdadgaa.X
