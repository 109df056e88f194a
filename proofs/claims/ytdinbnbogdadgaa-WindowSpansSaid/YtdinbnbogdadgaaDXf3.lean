/- Proofs towards the laws of this seat, joined. No conditions beyond those typed. -/
import Derived.Test.YtdinbnbogdadgaaB10
import Derived.Test.YtdinbnbogdadgaaB11
import Derived.Test.YtdinbnbogdadgaaB17
import Derived.Test.YtdinbnbogdadgaaDXf17
namespace Go.Proofs.Ytdinbnbogdadgaa.X
open Go.RowKit Go.Proofs.YtdinbnbogdadgaaW.PrintWords Go.Proofs.YtdinbnbogdadgaaW.PrintLast Go.Proofs.YtdinbnbogdadgaaW.PrintMore
attribute [local go_sem] max2_int min2_int max_two min_two max_three min_three max_four min_four   -- for this text's walks alone
set_option linter.unusedVariables false
set_option linter.unusedSimpArgs false
mutual
def leatlaw11_WindowSpans.j0 : Nat → Int → Bool → Int → Int → Int → Option (Bool)
 | 0, _, _, _, _, _ => none
 | k + 1, x1, x16, x204000, x204001, x204002 => if x16 = true then (some true) else ((window_Spans.f k x204000 x204001 x204002 x1).bind fun t207 => ((leatref11_Spans.f k x204000 x204001 x204002 x1).bind fun t210 => ((leathelp_Spans.f k t207 t210).bind fun t213 => (if t213 = true then (leatlaw11_WindowSpans.l0 k x1 t207 0 x204000 x204001 x204002) else (none)))))
def leatlaw11_WindowSpans.l0 : Nat → Int → List (S31) → Int → Int → Int → Int → Option (Bool)
 | 0, _, _, _, _, _, _ => none
 | k + 1, x1, x5, x6, x204000, x204001, x204002 => if x6 < (x5.length : Int) then (if 0 ≤ x6 then (if ((rd_T31 x5 x6).f0) > x1 then (none) else (if ((rd_T31 x5 x6).f1) ≤ x1 then (none) else (if (wrap64 (((rd_T31 x5 x6).f1) - ((rd_T31 x5 x6).f0))) = x204001 then (if x6 > 0 then (if 0 ≤ (wrap64 (x6 - 1)) then (if (wrap64 (x6 - 1)) < (x5.length : Int) then (if (wrap64 (((rd_T31 x5 x6).f0) - ((rd_T31 x5 (wrap64 (x6 - 1))).f0))) = x204002 then (leatlaw11_WindowSpans.l0 k x1 x5 (wrap64 (x6 + 1)) x204000 x204001 x204002) else (none)) else (none)) else (none)) else (leatlaw11_WindowSpans.l0 k x1 x5 (wrap64 (x6 + 1)) x204000 x204001 x204002)) else (none)))) else (none)) else (if x204000 = 2 then (some true) else (some ((x5.length : Int) == 1)))
end
def leatlaw11_WindowSpans.f (k : Nat) (a0_0 : Int) (a0_1 : Int) (a0_2 : Int) (a1 : Int) : Option (Bool) := (leatlaw11_known.f k).bind fun t204 => (if t204 = true then ((leatlaw11_fit.f k a0_0 a0_1 a0_2).bind fun t205 => (if t205 = true then ((leatlaw11_time.f a1).bind fun t206 => (leatlaw11_WindowSpans.j0 k a1 (!t206) a0_0 a0_1 a0_2)) else (leatlaw11_WindowSpans.j0 k a1 true a0_0 a0_1 a0_2))) else (none))
theorem leatlaw11_WindowSpans.mono_l : ∀ k, (∀ y0 y1 y2 y3 y4, LeO (leatlaw11_WindowSpans.j0 k y0 y1 y2 y3 y4) (leatlaw11_WindowSpans.j0 (k + 1) y0 y1 y2 y3 y4)) ∧ (∀ y0 y1 y2 y3 y4 y5, LeO (leatlaw11_WindowSpans.l0 k y0 y1 y2 y3 y4 y5) (leatlaw11_WindowSpans.l0 (k + 1) y0 y1 y2 y3 y4 y5))
 | 0 => ⟨fun _ _ _ _ _ r h => by simp [leatlaw11_WindowSpans.j0] at h, fun _ _ _ _ _ _ r h => by simp [leatlaw11_WindowSpans.l0] at h⟩
 | k + 1 => by
  obtain ⟨ih0, ih1⟩ := leatlaw11_WindowSpans.mono_l k
  refine ⟨?_, ?_⟩
  ·intro y0 y1 y2 y3 y4
   unfold leatlaw11_WindowSpans.j0
   repeat' first
   | (with_reducible exact ih0 _ _ _ _ _)
   | (with_reducible exact ih1 _ _ _ _ _ _)
   | (with_reducible exact leathelp_Spans.mono _ _ _)
   | (with_reducible exact leatlaw11_fit.mono _ _ _ _)
   | (with_reducible exact leatlaw11_known.mono _)
   | (with_reducible exact leatref11_Spans.mono _ _ _ _ _)
   | (with_reducible exact window_Spans.mono _ _ _ _ _)
   | (with_reducible exact LeO.refl _)
   | (with_reducible exact LeO.none _)
   | (with_reducible refine LeO.ite ?_ ?_)
   | (with_reducible refine LeO.bind ?_ (fun _ => ?_))
   | exact ih0 _ _ _ _ _
   | exact ih1 _ _ _ _ _ _
   | exact leathelp_Spans.mono _ _ _
   | exact leatlaw11_fit.mono _ _ _ _
   | exact leatlaw11_known.mono _
   | exact leatref11_Spans.mono _ _ _ _ _
   | exact window_Spans.mono _ _ _ _ _
   | exact LeO.none _
   | refine LeO.ite ?_ ?_
   | refine LeO.bind ?_ (fun _ => ?_)
  ·intro y0 y1 y2 y3 y4 y5
   unfold leatlaw11_WindowSpans.l0
   repeat' first
   | (with_reducible exact ih0 _ _ _ _ _)
   | (with_reducible exact ih1 _ _ _ _ _ _)
   | (with_reducible exact leathelp_Spans.mono _ _ _)
   | (with_reducible exact leatlaw11_fit.mono _ _ _ _)
   | (with_reducible exact leatlaw11_known.mono _)
   | (with_reducible exact leatref11_Spans.mono _ _ _ _ _)
   | (with_reducible exact window_Spans.mono _ _ _ _ _)
   | (with_reducible exact LeO.refl _)
   | (with_reducible exact LeO.none _)
   | (with_reducible refine LeO.ite ?_ ?_)
   | (with_reducible refine LeO.bind ?_ (fun _ => ?_))
   | exact ih0 _ _ _ _ _
   | exact ih1 _ _ _ _ _ _
   | exact leathelp_Spans.mono _ _ _
   | exact leatlaw11_fit.mono _ _ _ _
   | exact leatlaw11_known.mono _
   | exact leatref11_Spans.mono _ _ _ _ _
   | exact window_Spans.mono _ _ _ _ _
   | exact LeO.none _
   | refine LeO.ite ?_ ?_
   | refine LeO.bind ?_ (fun _ => ?_)
theorem leatlaw11_WindowSpans.mono : ∀ a0 a1 a2 a3 k, LeO (leatlaw11_WindowSpans.f k a0 a1 a2 a3) (leatlaw11_WindowSpans.f (k + 1) a0 a1 a2 a3) := by
 intro a0 a1 a2 a3 k
 obtain ⟨ih0, ih1⟩ := leatlaw11_WindowSpans.mono_l k
 unfold leatlaw11_WindowSpans.f
 repeat' first
   | (with_reducible exact ih0 _ _ _ _ _)
   | (with_reducible exact ih1 _ _ _ _ _ _)
   | (with_reducible exact leathelp_Spans.mono _ _ _)
   | (with_reducible exact leatlaw11_fit.mono _ _ _ _)
   | (with_reducible exact leatlaw11_known.mono _)
   | (with_reducible exact leatref11_Spans.mono _ _ _ _ _)
   | (with_reducible exact window_Spans.mono _ _ _ _ _)
   | (with_reducible exact LeO.refl _)
   | (with_reducible exact LeO.none _)
   | (with_reducible refine LeO.ite ?_ ?_)
   | (with_reducible refine LeO.bind ?_ (fun _ => ?_))
   | exact ih0 _ _ _ _ _
   | exact ih1 _ _ _ _ _ _
   | exact leathelp_Spans.mono _ _ _
   | exact leatlaw11_fit.mono _ _ _ _
   | exact leatlaw11_known.mono _
   | exact leatref11_Spans.mono _ _ _ _ _
   | exact window_Spans.mono _ _ _ _ _
   | exact LeO.none _
   | refine LeO.ite ?_ ?_
   | refine LeO.bind ?_ (fun _ => ?_)
set_option maxHeartbeats 8000000 in
set_option maxRecDepth 100000 in
theorem leatlaw11_WindowSpans.calls (k : Nat) (a0_0 : Int) (a0_1 : Int) (a0_2 : Int) (a1 : Int) (r : Bool) (w : World) (h : leatlaw11_WindowSpans.f k a0_0 a0_1 a0_2 a1 = some r) :
  Calls Try.prog 3 #[.agg #[.int .i64 a0_0, .int .i64 a0_1, .int .i64 a0_2], .int .i64 a1] w fun e w' => e = .returned (.bool r) ∧ Below w.heap.size w w' := by
 have hu23 := Try.underlying23
 have HB := Aside0.mk (Below.refl w.heap.size w)
 have H : ((leatlaw11_known.f k).bind fun t204 => (if t204 = true then ((leatlaw11_fit.f k a0_0 a0_1 a0_2).bind fun t205 => (if t205 = true then ((leatlaw11_time.f a1).bind fun t206 => (leatlaw11_WindowSpans.j0 k a1 (!t206) a0_0 a0_1 a0_2)) else (leatlaw11_WindowSpans.j0 k a1 true a0_0 a0_1 a0_2))) else (none))) = some r := h
 clear h
 replace H := Option.bind_eq_some_iff.mp H
 obtain ⟨t204, A30, H⟩ := H
 replace H : (if t204 = true then ((leatlaw11_fit.f k a0_0 a0_1 a0_2).bind fun t205 => (if t205 = true then ((leatlaw11_time.f a1).bind fun t206 => (leatlaw11_WindowSpans.j0 k a1 (!t206) a0_0 a0_1 a0_2)) else (leatlaw11_WindowSpans.j0 k a1 true a0_0 a0_1 a0_2))) else (none)) = some r := H
 have A3 := Aside0.mk A30
 clear A30
 by_cases c4 : t204 = true
 ·subst c4
  have H1 : ((leatlaw11_fit.f k a0_0 a0_1 a0_2).bind fun t205 => (if t205 = true then ((leatlaw11_time.f a1).bind fun t206 => (leatlaw11_WindowSpans.j0 k a1 (!t206) a0_0 a0_1 a0_2)) else (leatlaw11_WindowSpans.j0 k a1 true a0_0 a0_1 a0_2))) = some r := by rw [if_pos rfl] at H; exact H
  clear H
  have H := H1
  clear H1
  have HC5 := Aside0.mk H
  clear H
  go_enter Try.func3, Try.ntmps3
  go_upto_region 3 with (first | ((with_reducible refine gate_dst (N := 2) rfl ?_); (try (refine gate_guard (by rfl) ?_; dsimp only)); refine box_event ?hg (N := 2) ?hd (cs := #[.int .i64 a0_0, .int .i64 a0_1, .int .i64 a0_2]) (t := 23) ?hr ?_; (case hd => rfl); (case hg => rfl); (case hr => first | (go_simp; done) | (go_simp; rfl)); intro gb203 hg w6 hbox hb; have n0_ := Aside0.mk (below_step (by repeat (first | (with_reducible first | exact HB.out | apply below_alloc | apply pw_below_drewN | apply below_drew1) | exact HB.out)) hb); have n1_ := Aside0.mk (hbox); have n2_ := Aside0.mk ((by rw [hg]; exact (below_size (by repeat (first | (with_reducible first | exact HB.out | apply below_alloc | apply pw_below_drewN | apply below_drew1) | exact HB.out))) : w.heap.size ≤ gb203)); have n3_ := Aside0.mk ((by rw [hg]; exact (below_size (by repeat (first | (with_reducible first | exact HB.out | apply below_alloc | apply pw_below_drewN | apply below_drew1) | exact HB.out))) : w.heap.size ≤ gb203)); clear HB; have HB := n0_; have BK203 := n1_; have GW203 := n2_; have GE203 := n3_; clear n0_ n1_ n2_ n3_; clear hb hbox hg) | (go_at_call 12; (with_reducible refine (leatlaw11_known.calls k  true _ A3.out).mono ?_); rintro e w7 ⟨rfl, hb⟩; have n0_ := Aside0.mk (blk_below (g := gb203) (o := .cells #[.int .i64 a0_0, .int .i64 a0_1, .int .i64 a0_2] 23 (0, 0)) (by (with_reducible repeat (first | refine blk_drewN ?_ _ | refine blk_drew ?_ | refine blk_alloc ?_ _)); exact BK203.out) hb); have n1_ := Aside0.mk (below_step (by repeat (first | (with_reducible first | exact HB.out | apply below_alloc | apply pw_below_drewN | apply below_drew1 | refine below_set ?_ GE203.out) | exact HB.out)) hb); clear BK203; clear HB; have BK203 := n0_; have HB := n1_; clear n0_ n1_; (try clear hb); (try clear hb2); (try clear hk); (try clear hi)))
  repeat (go_quiet (first | ((with_reducible refine gate_dst (N := 2) rfl ?_); (try (refine gate_guard (by rfl) ?_; dsimp only)); refine box_event ?hg (N := 2) ?hd (cs := #[.int .i64 a0_0, .int .i64 a0_1, .int .i64 a0_2]) (t := 23) ?hr ?_; (case hd => rfl); (case hg => rfl); (case hr => first | (go_simp; done) | (go_simp; rfl)); intro gb203 hg w6 hbox hb; have n0_ := Aside0.mk (below_step (by repeat (first | (with_reducible first | exact HB.out | apply below_alloc | apply pw_below_drewN | apply below_drew1) | exact HB.out)) hb); have n1_ := Aside0.mk (hbox); have n2_ := Aside0.mk ((by rw [hg]; exact (below_size (by repeat (first | (with_reducible first | exact HB.out | apply below_alloc | apply pw_below_drewN | apply below_drew1) | exact HB.out))) : w.heap.size ≤ gb203)); have n3_ := Aside0.mk ((by rw [hg]; exact (below_size (by repeat (first | (with_reducible first | exact HB.out | apply below_alloc | apply pw_below_drewN | apply below_drew1) | exact HB.out))) : w.heap.size ≤ gb203)); clear HB; have HB := n0_; have BK203 := n1_; have GW203 := n2_; have GE203 := n3_; clear n0_ n1_ n2_ n3_; clear hb hbox hg) | (go_at_call 12; (with_reducible refine (leatlaw11_known.calls k  true _ A3.out).mono ?_); rintro e w7 ⟨rfl, hb⟩; have n0_ := Aside0.mk (blk_below (g := gb203) (o := .cells #[.int .i64 a0_0, .int .i64 a0_1, .int .i64 a0_2] 23 (0, 0)) (by (with_reducible repeat (first | refine blk_drewN ?_ _ | refine blk_drew ?_ | refine blk_alloc ?_ _)); exact BK203.out) hb); have n1_ := Aside0.mk (below_step (by repeat (first | (with_reducible first | exact HB.out | apply below_alloc | apply pw_below_drewN | apply below_drew1 | refine below_set ?_ GE203.out) | exact HB.out)) hb); clear BK203; clear HB; have BK203 := n0_; have HB := n1_; clear n0_ n1_; (try clear hb); (try clear hb2); (try clear hk); (try clear hi))); go_upto_region 3 with (first | ((with_reducible refine gate_dst (N := 2) rfl ?_); (try (refine gate_guard (by rfl) ?_; dsimp only)); refine box_event ?hg (N := 2) ?hd (cs := #[.int .i64 a0_0, .int .i64 a0_1, .int .i64 a0_2]) (t := 23) ?hr ?_; (case hd => rfl); (case hg => rfl); (case hr => first | (go_simp; done) | (go_simp; rfl)); intro gb203 hg w6 hbox hb; have n0_ := Aside0.mk (below_step (by repeat (first | (with_reducible first | exact HB.out | apply below_alloc | apply pw_below_drewN | apply below_drew1) | exact HB.out)) hb); have n1_ := Aside0.mk (hbox); have n2_ := Aside0.mk ((by rw [hg]; exact (below_size (by repeat (first | (with_reducible first | exact HB.out | apply below_alloc | apply pw_below_drewN | apply below_drew1) | exact HB.out))) : w.heap.size ≤ gb203)); have n3_ := Aside0.mk ((by rw [hg]; exact (below_size (by repeat (first | (with_reducible first | exact HB.out | apply below_alloc | apply pw_below_drewN | apply below_drew1) | exact HB.out))) : w.heap.size ≤ gb203)); clear HB; have HB := n0_; have BK203 := n1_; have GW203 := n2_; have GE203 := n3_; clear n0_ n1_ n2_ n3_; clear hb hbox hg) | (go_at_call 12; (with_reducible refine (leatlaw11_known.calls k  true _ A3.out).mono ?_); rintro e w7 ⟨rfl, hb⟩; have n0_ := Aside0.mk (blk_below (g := gb203) (o := .cells #[.int .i64 a0_0, .int .i64 a0_1, .int .i64 a0_2] 23 (0, 0)) (by (with_reducible repeat (first | refine blk_drewN ?_ _ | refine blk_drew ?_ | refine blk_alloc ?_ _)); exact BK203.out) hb); have n1_ := Aside0.mk (below_step (by repeat (first | (with_reducible first | exact HB.out | apply below_alloc | apply pw_below_drewN | apply below_drew1 | refine below_set ?_ GE203.out) | exact HB.out)) hb); clear BK203; clear HB; have BK203 := n0_; have HB := n1_; clear n0_ n1_; (try clear hb); (try clear hb2); (try clear hk); (try clear hi))))
  (try simp only [Act.put, List.setIfInBounds_toArray, List.set_cons_zero, List.set_cons_succ])
  go_cut [16] (fun v16 wc => ∃ (kq : Nat) (x16_4 : Bool), v16 = .bool x16_4 ∧ Aside0 (leatlaw11_WindowSpans.j0 kq a1 x16_4 a0_0 a0_1 a0_2 = some r) ∧ Aside0 (kq ≤ k) ∧ Aside0 (wc.heap[gb203]? = some (.cells #[.int .i64 a0_0, .int .i64 a0_1, .int .i64 a0_2] 23 (0, 0))) ∧ Aside0 (Below w.heap.size w wc))
  case first =>
   have H := HC5.out
   clear HC5
   replace H := Option.bind_eq_some_iff.mp H
   obtain ⟨t205, A80, H⟩ := H
   replace H : (if t205 = true then ((leatlaw11_time.f a1).bind fun t206 => (leatlaw11_WindowSpans.j0 k a1 (!t206) a0_0 a0_1 a0_2)) else (leatlaw11_WindowSpans.j0 k a1 true a0_0 a0_1 a0_2)) = some r := H
   have A8 := Aside0.mk A80
   clear A80
   by_cases c9 : t205 = true
   ·subst c9
    have H1 : ((leatlaw11_time.f a1).bind fun t206 => (leatlaw11_WindowSpans.j0 k a1 (!t206) a0_0 a0_1 a0_2)) = some r := by rw [if_pos rfl] at H; exact H
    clear H
    have H := H1
    clear H1
    replace H := Option.bind_eq_some_iff.mp H
    obtain ⟨t206, A100, H⟩ := H
    replace H : (leatlaw11_WindowSpans.j0 k a1 (!t206) a0_0 a0_1 a0_2) = some r := H
    have A10 := Aside0.mk A100
    clear A100
    have H' := Aside0.mk H
    clear H
    have hcz11_0 : w7.cell? ⟨gb203, 0, none⟩ = some (.int .i64 a0_0) := (blk_cell BK203.out 0).trans rfl
    have hcz11_1 : w7.cell? ⟨gb203, 1, none⟩ = some (.int .i64 a0_1) := (blk_cell BK203.out 1).trans rfl
    have hcz11_2 : w7.cell? ⟨gb203, 2, none⟩ = some (.int .i64 a0_2) := (blk_cell BK203.out 2).trans rfl
    have hfz11_0 := blk_frozen BK203.out 0
    have hfz11_1 := blk_frozen BK203.out 1
    have hfz11_2 := blk_frozen BK203.out 2
    go_wp2_with (first | (go_at_call 13; (with_reducible refine (leatlaw11_fit.calls k a0_0 a0_1 a0_2 true _ A8.out).mono ?_); rintro e w12 ⟨rfl, hb⟩; have n0_ := Aside0.mk (blk_below (g := gb203) (o := .cells #[.int .i64 a0_0, .int .i64 a0_1, .int .i64 a0_2] 23 (0, 0)) (by (with_reducible repeat (first | refine blk_drewN ?_ _ | refine blk_drew ?_ | refine blk_alloc ?_ _)); exact BK203.out) hb); have n1_ := Aside0.mk (below_step (by repeat (first | (with_reducible first | exact HB.out | apply below_alloc | apply pw_below_drewN | apply below_drew1 | refine below_set ?_ GE203.out) | exact HB.out)) hb); clear BK203; clear HB; have BK203 := n0_; have HB := n1_; clear n0_ n1_; (try clear hb); (try clear hb2); (try clear hk); (try clear hi)) | (go_at_call 14; (with_reducible refine (leatlaw11_time.calls a1 t206 _ A10.out).mono ?_); rintro e w' ⟨rfl, ⟨nd, rfl⟩⟩; (try first | exact ⟨rfl, _, World.drewN_drewN _ _ _⟩ | exact ⟨rfl, _, Eq.trans (World.drewN_drewN _ _ _) (congrArg (World.drewN _) (Nat.add_assoc _ _ _))⟩)))
    repeat (go_quiet (first | (go_at_call 13; (with_reducible refine (leatlaw11_fit.calls k a0_0 a0_1 a0_2 true _ A8.out).mono ?_); rintro e w12 ⟨rfl, hb⟩; have n0_ := Aside0.mk (blk_below (g := gb203) (o := .cells #[.int .i64 a0_0, .int .i64 a0_1, .int .i64 a0_2] 23 (0, 0)) (by (with_reducible repeat (first | refine blk_drewN ?_ _ | refine blk_drew ?_ | refine blk_alloc ?_ _)); exact BK203.out) hb); have n1_ := Aside0.mk (below_step (by repeat (first | (with_reducible first | exact HB.out | apply below_alloc | apply pw_below_drewN | apply below_drew1 | refine below_set ?_ GE203.out) | exact HB.out)) hb); clear BK203; clear HB; have BK203 := n0_; have HB := n1_; clear n0_ n1_; (try clear hb); (try clear hb2); (try clear hk); (try clear hi)) | (go_at_call 14; (with_reducible refine (leatlaw11_time.calls a1 t206 _ A10.out).mono ?_); rintro e w' ⟨rfl, ⟨nd, rfl⟩⟩; (try first | exact ⟨rfl, _, World.drewN_drewN _ _ _⟩ | exact ⟨rfl, _, Eq.trans (World.drewN_drewN _ _ _) (congrArg (World.drewN _) (Nat.add_assoc _ _ _))⟩))); try go_wp2_with (first | (go_at_call 13; (with_reducible refine (leatlaw11_fit.calls k a0_0 a0_1 a0_2 true _ A8.out).mono ?_); rintro e w12 ⟨rfl, hb⟩; have n0_ := Aside0.mk (blk_below (g := gb203) (o := .cells #[.int .i64 a0_0, .int .i64 a0_1, .int .i64 a0_2] 23 (0, 0)) (by (with_reducible repeat (first | refine blk_drewN ?_ _ | refine blk_drew ?_ | refine blk_alloc ?_ _)); exact BK203.out) hb); have n1_ := Aside0.mk (below_step (by repeat (first | (with_reducible first | exact HB.out | apply below_alloc | apply pw_below_drewN | apply below_drew1 | refine below_set ?_ GE203.out) | exact HB.out)) hb); clear BK203; clear HB; have BK203 := n0_; have HB := n1_; clear n0_ n1_; (try clear hb); (try clear hb2); (try clear hk); (try clear hi)) | (go_at_call 14; (with_reducible refine (leatlaw11_time.calls a1 t206 _ A10.out).mono ?_); rintro e w' ⟨rfl, ⟨nd, rfl⟩⟩; (try first | exact ⟨rfl, _, World.drewN_drewN _ _ _⟩ | exact ⟨rfl, _, Eq.trans (World.drewN_drewN _ _ _) (congrArg (World.drewN _) (Nat.add_assoc _ _ _))⟩))))
    go_meet
    case rel => exact ⟨_, (!t206), (by first | rfl | (simp; done) | (simp [*]; done)), H', ⟨by first | omega | exact Nat.le_refl _⟩, ⟨by (with_reducible repeat (first | refine blk_drewN ?_ _ | refine blk_drew ?_ | refine blk_alloc ?_ _)); exact BK203.out⟩, ⟨by repeat (first | (with_reducible first | exact HB.out | apply below_alloc | apply pw_below_drewN | apply below_drew1 | refine below_set ?_ GE203.out) | exact HB.out)⟩⟩
   ·replace c9 := Bool.eq_false_iff.mpr c9
    subst c9
    have H1 : (leatlaw11_WindowSpans.j0 k a1 true a0_0 a0_1 a0_2) = some r := by rw [if_neg (show ¬ (false = true) by decide)] at H; exact H
    clear H
    have H := H1
    clear H1
    have H' := Aside0.mk H
    clear H
    have hcz13_0 : w7.cell? ⟨gb203, 0, none⟩ = some (.int .i64 a0_0) := (blk_cell BK203.out 0).trans rfl
    have hcz13_1 : w7.cell? ⟨gb203, 1, none⟩ = some (.int .i64 a0_1) := (blk_cell BK203.out 1).trans rfl
    have hcz13_2 : w7.cell? ⟨gb203, 2, none⟩ = some (.int .i64 a0_2) := (blk_cell BK203.out 2).trans rfl
    have hfz13_0 := blk_frozen BK203.out 0
    have hfz13_1 := blk_frozen BK203.out 1
    have hfz13_2 := blk_frozen BK203.out 2
    go_wp2_with (first | (go_at_call 13; (with_reducible refine (leatlaw11_fit.calls k a0_0 a0_1 a0_2 false _ A8.out).mono ?_); rintro e w14 ⟨rfl, hb⟩; have n0_ := Aside0.mk (blk_below (g := gb203) (o := .cells #[.int .i64 a0_0, .int .i64 a0_1, .int .i64 a0_2] 23 (0, 0)) (by (with_reducible repeat (first | refine blk_drewN ?_ _ | refine blk_drew ?_ | refine blk_alloc ?_ _)); exact BK203.out) hb); have n1_ := Aside0.mk (below_step (by repeat (first | (with_reducible first | exact HB.out | apply below_alloc | apply pw_below_drewN | apply below_drew1 | refine below_set ?_ GE203.out) | exact HB.out)) hb); clear BK203; clear HB; have BK203 := n0_; have HB := n1_; clear n0_ n1_; (try clear hb); (try clear hb2); (try clear hk); (try clear hi)))
    repeat (go_quiet (first | (go_at_call 13; (with_reducible refine (leatlaw11_fit.calls k a0_0 a0_1 a0_2 false _ A8.out).mono ?_); rintro e w14 ⟨rfl, hb⟩; have n0_ := Aside0.mk (blk_below (g := gb203) (o := .cells #[.int .i64 a0_0, .int .i64 a0_1, .int .i64 a0_2] 23 (0, 0)) (by (with_reducible repeat (first | refine blk_drewN ?_ _ | refine blk_drew ?_ | refine blk_alloc ?_ _)); exact BK203.out) hb); have n1_ := Aside0.mk (below_step (by repeat (first | (with_reducible first | exact HB.out | apply below_alloc | apply pw_below_drewN | apply below_drew1 | refine below_set ?_ GE203.out) | exact HB.out)) hb); clear BK203; clear HB; have BK203 := n0_; have HB := n1_; clear n0_ n1_; (try clear hb); (try clear hb2); (try clear hk); (try clear hi))); try go_wp2_with (first | (go_at_call 13; (with_reducible refine (leatlaw11_fit.calls k a0_0 a0_1 a0_2 false _ A8.out).mono ?_); rintro e w14 ⟨rfl, hb⟩; have n0_ := Aside0.mk (blk_below (g := gb203) (o := .cells #[.int .i64 a0_0, .int .i64 a0_1, .int .i64 a0_2] 23 (0, 0)) (by (with_reducible repeat (first | refine blk_drewN ?_ _ | refine blk_drew ?_ | refine blk_alloc ?_ _)); exact BK203.out) hb); have n1_ := Aside0.mk (below_step (by repeat (first | (with_reducible first | exact HB.out | apply below_alloc | apply pw_below_drewN | apply below_drew1 | refine below_set ?_ GE203.out) | exact HB.out)) hb); clear BK203; clear HB; have BK203 := n0_; have HB := n1_; clear n0_ n1_; (try clear hb); (try clear hb2); (try clear hk); (try clear hi))))
    go_meet
    case rel => exact ⟨_, (true), (by first | rfl | (simp; done) | (simp [*]; done)), H', ⟨by first | omega | exact Nat.le_refl _⟩, ⟨by (with_reducible repeat (first | refine blk_drewN ?_ _ | refine blk_drew ?_ | refine blk_alloc ?_ _)); exact BK203.out⟩, ⟨by repeat (first | (with_reducible first | exact HB.out | apply below_alloc | apply pw_below_drewN | apply below_drew1 | refine below_set ?_ GE203.out) | exact HB.out)⟩⟩
  case rest =>
   clear HC5
   try clear p2; try clear c3; try clear c4; try clear c9; try clear hcz11_0; try clear hcz11_1; try clear hcz11_2; try clear hcz13_0; try clear hcz13_1; try clear hcz13_2; try clear hfz11_0; try clear hfz11_1; try clear hfz11_2; try clear hfz13_0; try clear hfz13_1; try clear hfz13_2
   obtain ⟨kq, x16_4, rfl, HA, HJ4, BK203, HB⟩ := hcut
   cases kq with
   | zero => exact absurd HA.out (by simp [leatlaw11_WindowSpans.j0])
   | succ kj4 =>
    have H := HA.out
    clear HA
    simp only [leatlaw11_WindowSpans.j0] at H
    by_cases c15 : x16_4 = true
    ·subst c15
     have H1 : (some true) = some r := by rw [if_pos rfl] at H; exact H
     clear H
     have H := H1
     clear H1
     obtain rfl := Option.some.inj H
     go_wp2
     repeat (go_quiet (fail); try go_wp2)
     go_ret
     exact ⟨by first | rfl | (simp [errW_none, errW_some] <;> rfl) | (simp [*, errW_none, errW_some] <;> rfl), by repeat (first | (with_reducible first | exact HB.out | apply below_alloc | apply pw_below_drewN | apply below_drew1 | refine below_set ?_ GE203.out) | exact HB.out)⟩
    ·replace c15 := Bool.eq_false_iff.mpr c15
     subst c15
     have H1 : ((window_Spans.f kj4 a0_0 a0_1 a0_2 a1).bind fun t207 => ((leatref11_Spans.f kj4 a0_0 a0_1 a0_2 a1).bind fun t210 => ((leathelp_Spans.f kj4 t207 t210).bind fun t213 => (if t213 = true then (leatlaw11_WindowSpans.l0 kj4 a1 t207 0 a0_0 a0_1 a0_2) else (none))))) = some r := by rw [if_neg (show ¬ (false = true) by decide)] at H; exact H
     clear H
     have H := H1
     clear H1
     replace H := Option.bind_eq_some_iff.mp H
     obtain ⟨t207, A160, H⟩ := H
     replace H : ((leatref11_Spans.f kj4 a0_0 a0_1 a0_2 a1).bind fun t210 => ((leathelp_Spans.f kj4 t207 t210).bind fun t213 => (if t213 = true then (leatlaw11_WindowSpans.l0 kj4 a1 t207 0 a0_0 a0_1 a0_2) else (none)))) = some r := H
     have A16 := Aside0.mk A160
     clear A160
     replace H := Option.bind_eq_some_iff.mp H
     obtain ⟨t210, A170, H⟩ := H
     replace H : ((leathelp_Spans.f kj4 t207 t210).bind fun t213 => (if t213 = true then (leatlaw11_WindowSpans.l0 kj4 a1 t207 0 a0_0 a0_1 a0_2) else (none))) = some r := H
     have A17 := Aside0.mk A170
     clear A170
     replace H := Option.bind_eq_some_iff.mp H
     obtain ⟨t213, A180, H⟩ := H
     replace H : (if t213 = true then (leatlaw11_WindowSpans.l0 kj4 a1 t207 0 a0_0 a0_1 a0_2) else (none)) = some r := H
     have A18 := Aside0.mk A180
     clear A180
     by_cases c19 : t213 = true
     ·subst c19
      have H1 : (leatlaw11_WindowSpans.l0 kj4 a1 t207 0 a0_0 a0_1 a0_2) = some r := by rw [if_pos rfl] at H; exact H
      clear H
      have H := H1
      clear H1
      have H' := Aside0.mk H
      clear H
      have hcz20_0 : wc.cell? ⟨gb203, 0, none⟩ = some (.int .i64 a0_0) := (blk_cell BK203.out 0).trans rfl
      have hcz20_1 : wc.cell? ⟨gb203, 1, none⟩ = some (.int .i64 a0_1) := (blk_cell BK203.out 1).trans rfl
      have hcz20_2 : wc.cell? ⟨gb203, 2, none⟩ = some (.int .i64 a0_2) := (blk_cell BK203.out 2).trans rfl
      have hfz20_0 := blk_frozen BK203.out 0
      have hfz20_1 := blk_frozen BK203.out 1
      have hfz20_2 := blk_frozen BK203.out 2
      go_wp2_with (first | (go_at_call 15; (with_reducible refine (window_Spans.calls kj4 a0_0 a0_1 a0_2 a1 t207 _ A16.out).mono ?_); rintro e w21 ⟨v208, rfl, ho0, hb⟩; have n0_ := Aside0.mk (Kd.R_lower ho0 (below_size (by repeat (first | (with_reducible first | exact HB.out | apply below_alloc | apply pw_below_drewN | apply below_drew1 | refine below_set ?_ GE203.out) | exact HB.out)))); have n1_ := Aside0.mk (blk_below (g := gb203) (o := .cells #[.int .i64 a0_0, .int .i64 a0_1, .int .i64 a0_2] 23 (0, 0)) (by (with_reducible repeat (first | refine blk_drewN ?_ _ | refine blk_drew ?_ | refine blk_alloc ?_ _)); exact BK203.out) hb); have n2_ := Aside0.mk (below_step (by repeat (first | (with_reducible first | exact HB.out | apply below_alloc | apply pw_below_drewN | apply below_drew1 | refine below_set ?_ GE203.out) | exact HB.out)) hb); clear BK203; clear HB; have HO209 := n0_; have BK203 := n1_; have HB := n2_; clear n0_ n1_ n2_; (try clear hb); (try clear hb2); (try clear hk); (try clear hi); (try clear ho0); have hcz22_0 : w21.cell? ⟨gb203, 0, none⟩ = some (.int .i64 a0_0) := (blk_cell BK203.out 0).trans rfl; have hcz22_1 : w21.cell? ⟨gb203, 1, none⟩ = some (.int .i64 a0_1) := (blk_cell BK203.out 1).trans rfl; have hcz22_2 : w21.cell? ⟨gb203, 2, none⟩ = some (.int .i64 a0_2) := (blk_cell BK203.out 2).trans rfl; have hfz22_0 := blk_frozen BK203.out 0; have hfz22_1 := blk_frozen BK203.out 1; have hfz22_2 := blk_frozen BK203.out 2) | (go_at_call 17; (with_reducible refine (leatref11_Spans.calls kj4 a0_0 a0_1 a0_2 a1 t210 _ A17.out).mono ?_); rintro e w23 ⟨v211, rfl, ho0, hb⟩; have n0_ := Aside0.mk (Kd.R_elder' (by (with_reducible repeat (first | apply Kd.R_alloc | apply Kd.R_drewN | apply Kd.R_drew)); exact HO209.out) (Kd.R_base ho0) hb); have n1_ := Aside0.mk (Kd.R_lower (Kd.R_new' ho0 (Kd.R_lt (by (with_reducible repeat (first | apply Kd.R_alloc | apply Kd.R_drewN | apply Kd.R_drew)); exact HO209.out))) (below_size (by repeat (first | (with_reducible first | exact HB.out | apply below_alloc | apply pw_below_drewN | apply below_drew1 | refine below_set ?_ GE203.out) | exact HB.out)))); have n2_ := Aside0.mk (blk_below (g := gb203) (o := .cells #[.int .i64 a0_0, .int .i64 a0_1, .int .i64 a0_2] 23 (0, 0)) (by (with_reducible repeat (first | refine blk_drewN ?_ _ | refine blk_drew ?_ | refine blk_alloc ?_ _)); exact BK203.out) hb); have n3_ := Aside0.mk (below_step (by repeat (first | (with_reducible first | exact HB.out | apply below_alloc | apply pw_below_drewN | apply below_drew1 | refine below_set ?_ GE203.out) | exact HB.out)) hb); clear HO209; clear BK203; clear HB; have HO209 := n0_; have HO212 := n1_; have BK203 := n2_; have HB := n3_; clear n0_ n1_ n2_ n3_; (try clear hb); (try clear hb2); (try clear hk); (try clear hi); (try clear ho0); obtain ⟨Ao24, co24, eo24⟩ := Kd.R_slice HO209.out; subst eo24; obtain ⟨Ao25, co25, eo25⟩ := Kd.R_slice HO212.out; subst eo25) | (go_at_call 16; (with_reducible refine (leathelp_Spans.calls kj4 _ _ t207 _ _ t210 true _ ?side1 ?side2 ?side3 ?side4 A18.out).mono ?_); (case side1 => repeat (first | exact (Kd.R_reads' HO209.out).2.2 | (with_reducible refine Kd.C_alloc ?_ _) | (with_reducible refine Kd.C_drewN ?_ _) | (with_reducible refine Kd.C_drew ?_))); (case side2 => exact (Kd.R_reads' HO209.out).2.1); (case side3 => repeat (first | exact (Kd.R_reads' HO212.out).2.2 | (with_reducible refine Kd.C_alloc ?_ _) | (with_reducible refine Kd.C_drewN ?_ _) | (with_reducible refine Kd.C_drew ?_))); (case side4 => exact (Kd.R_reads' HO212.out).2.1); rintro e w' ⟨rfl, ⟨nd, rfl⟩⟩; (try first | exact ⟨rfl, _, World.drewN_drewN _ _ _⟩ | exact ⟨rfl, _, Eq.trans (World.drewN_drewN _ _ _) (congrArg (World.drewN _) (Nat.add_assoc _ _ _))⟩)))
      repeat (go_quiet (first | (go_at_call 15; (with_reducible refine (window_Spans.calls kj4 a0_0 a0_1 a0_2 a1 t207 _ A16.out).mono ?_); rintro e w21 ⟨v208, rfl, ho0, hb⟩; have n0_ := Aside0.mk (Kd.R_lower ho0 (below_size (by repeat (first | (with_reducible first | exact HB.out | apply below_alloc | apply pw_below_drewN | apply below_drew1 | refine below_set ?_ GE203.out) | exact HB.out)))); have n1_ := Aside0.mk (blk_below (g := gb203) (o := .cells #[.int .i64 a0_0, .int .i64 a0_1, .int .i64 a0_2] 23 (0, 0)) (by (with_reducible repeat (first | refine blk_drewN ?_ _ | refine blk_drew ?_ | refine blk_alloc ?_ _)); exact BK203.out) hb); have n2_ := Aside0.mk (below_step (by repeat (first | (with_reducible first | exact HB.out | apply below_alloc | apply pw_below_drewN | apply below_drew1 | refine below_set ?_ GE203.out) | exact HB.out)) hb); clear BK203; clear HB; have HO209 := n0_; have BK203 := n1_; have HB := n2_; clear n0_ n1_ n2_; (try clear hb); (try clear hb2); (try clear hk); (try clear hi); (try clear ho0); have hcz22_0 : w21.cell? ⟨gb203, 0, none⟩ = some (.int .i64 a0_0) := (blk_cell BK203.out 0).trans rfl; have hcz22_1 : w21.cell? ⟨gb203, 1, none⟩ = some (.int .i64 a0_1) := (blk_cell BK203.out 1).trans rfl; have hcz22_2 : w21.cell? ⟨gb203, 2, none⟩ = some (.int .i64 a0_2) := (blk_cell BK203.out 2).trans rfl; have hfz22_0 := blk_frozen BK203.out 0; have hfz22_1 := blk_frozen BK203.out 1; have hfz22_2 := blk_frozen BK203.out 2) | (go_at_call 17; (with_reducible refine (leatref11_Spans.calls kj4 a0_0 a0_1 a0_2 a1 t210 _ A17.out).mono ?_); rintro e w23 ⟨v211, rfl, ho0, hb⟩; have n0_ := Aside0.mk (Kd.R_elder' (by (with_reducible repeat (first | apply Kd.R_alloc | apply Kd.R_drewN | apply Kd.R_drew)); exact HO209.out) (Kd.R_base ho0) hb); have n1_ := Aside0.mk (Kd.R_lower (Kd.R_new' ho0 (Kd.R_lt (by (with_reducible repeat (first | apply Kd.R_alloc | apply Kd.R_drewN | apply Kd.R_drew)); exact HO209.out))) (below_size (by repeat (first | (with_reducible first | exact HB.out | apply below_alloc | apply pw_below_drewN | apply below_drew1 | refine below_set ?_ GE203.out) | exact HB.out)))); have n2_ := Aside0.mk (blk_below (g := gb203) (o := .cells #[.int .i64 a0_0, .int .i64 a0_1, .int .i64 a0_2] 23 (0, 0)) (by (with_reducible repeat (first | refine blk_drewN ?_ _ | refine blk_drew ?_ | refine blk_alloc ?_ _)); exact BK203.out) hb); have n3_ := Aside0.mk (below_step (by repeat (first | (with_reducible first | exact HB.out | apply below_alloc | apply pw_below_drewN | apply below_drew1 | refine below_set ?_ GE203.out) | exact HB.out)) hb); clear HO209; clear BK203; clear HB; have HO209 := n0_; have HO212 := n1_; have BK203 := n2_; have HB := n3_; clear n0_ n1_ n2_ n3_; (try clear hb); (try clear hb2); (try clear hk); (try clear hi); (try clear ho0); obtain ⟨Ao24, co24, eo24⟩ := Kd.R_slice HO209.out; subst eo24; obtain ⟨Ao25, co25, eo25⟩ := Kd.R_slice HO212.out; subst eo25) | (go_at_call 16; (with_reducible refine (leathelp_Spans.calls kj4 _ _ t207 _ _ t210 true _ ?side1 ?side2 ?side3 ?side4 A18.out).mono ?_); (case side1 => repeat (first | exact (Kd.R_reads' HO209.out).2.2 | (with_reducible refine Kd.C_alloc ?_ _) | (with_reducible refine Kd.C_drewN ?_ _) | (with_reducible refine Kd.C_drew ?_))); (case side2 => exact (Kd.R_reads' HO209.out).2.1); (case side3 => repeat (first | exact (Kd.R_reads' HO212.out).2.2 | (with_reducible refine Kd.C_alloc ?_ _) | (with_reducible refine Kd.C_drewN ?_ _) | (with_reducible refine Kd.C_drew ?_))); (case side4 => exact (Kd.R_reads' HO212.out).2.1); rintro e w' ⟨rfl, ⟨nd, rfl⟩⟩; (try first | exact ⟨rfl, _, World.drewN_drewN _ _ _⟩ | exact ⟨rfl, _, Eq.trans (World.drewN_drewN _ _ _) (congrArg (World.drewN _) (Nat.add_assoc _ _ _))⟩))); try go_wp2_with (first | (go_at_call 15; (with_reducible refine (window_Spans.calls kj4 a0_0 a0_1 a0_2 a1 t207 _ A16.out).mono ?_); rintro e w21 ⟨v208, rfl, ho0, hb⟩; have n0_ := Aside0.mk (Kd.R_lower ho0 (below_size (by repeat (first | (with_reducible first | exact HB.out | apply below_alloc | apply pw_below_drewN | apply below_drew1 | refine below_set ?_ GE203.out) | exact HB.out)))); have n1_ := Aside0.mk (blk_below (g := gb203) (o := .cells #[.int .i64 a0_0, .int .i64 a0_1, .int .i64 a0_2] 23 (0, 0)) (by (with_reducible repeat (first | refine blk_drewN ?_ _ | refine blk_drew ?_ | refine blk_alloc ?_ _)); exact BK203.out) hb); have n2_ := Aside0.mk (below_step (by repeat (first | (with_reducible first | exact HB.out | apply below_alloc | apply pw_below_drewN | apply below_drew1 | refine below_set ?_ GE203.out) | exact HB.out)) hb); clear BK203; clear HB; have HO209 := n0_; have BK203 := n1_; have HB := n2_; clear n0_ n1_ n2_; (try clear hb); (try clear hb2); (try clear hk); (try clear hi); (try clear ho0); have hcz22_0 : w21.cell? ⟨gb203, 0, none⟩ = some (.int .i64 a0_0) := (blk_cell BK203.out 0).trans rfl; have hcz22_1 : w21.cell? ⟨gb203, 1, none⟩ = some (.int .i64 a0_1) := (blk_cell BK203.out 1).trans rfl; have hcz22_2 : w21.cell? ⟨gb203, 2, none⟩ = some (.int .i64 a0_2) := (blk_cell BK203.out 2).trans rfl; have hfz22_0 := blk_frozen BK203.out 0; have hfz22_1 := blk_frozen BK203.out 1; have hfz22_2 := blk_frozen BK203.out 2) | (go_at_call 17; (with_reducible refine (leatref11_Spans.calls kj4 a0_0 a0_1 a0_2 a1 t210 _ A17.out).mono ?_); rintro e w23 ⟨v211, rfl, ho0, hb⟩; have n0_ := Aside0.mk (Kd.R_elder' (by (with_reducible repeat (first | apply Kd.R_alloc | apply Kd.R_drewN | apply Kd.R_drew)); exact HO209.out) (Kd.R_base ho0) hb); have n1_ := Aside0.mk (Kd.R_lower (Kd.R_new' ho0 (Kd.R_lt (by (with_reducible repeat (first | apply Kd.R_alloc | apply Kd.R_drewN | apply Kd.R_drew)); exact HO209.out))) (below_size (by repeat (first | (with_reducible first | exact HB.out | apply below_alloc | apply pw_below_drewN | apply below_drew1 | refine below_set ?_ GE203.out) | exact HB.out)))); have n2_ := Aside0.mk (blk_below (g := gb203) (o := .cells #[.int .i64 a0_0, .int .i64 a0_1, .int .i64 a0_2] 23 (0, 0)) (by (with_reducible repeat (first | refine blk_drewN ?_ _ | refine blk_drew ?_ | refine blk_alloc ?_ _)); exact BK203.out) hb); have n3_ := Aside0.mk (below_step (by repeat (first | (with_reducible first | exact HB.out | apply below_alloc | apply pw_below_drewN | apply below_drew1 | refine below_set ?_ GE203.out) | exact HB.out)) hb); clear HO209; clear BK203; clear HB; have HO209 := n0_; have HO212 := n1_; have BK203 := n2_; have HB := n3_; clear n0_ n1_ n2_ n3_; (try clear hb); (try clear hb2); (try clear hk); (try clear hi); (try clear ho0); obtain ⟨Ao24, co24, eo24⟩ := Kd.R_slice HO209.out; subst eo24; obtain ⟨Ao25, co25, eo25⟩ := Kd.R_slice HO212.out; subst eo25) | (go_at_call 16; (with_reducible refine (leathelp_Spans.calls kj4 _ _ t207 _ _ t210 true _ ?side1 ?side2 ?side3 ?side4 A18.out).mono ?_); (case side1 => repeat (first | exact (Kd.R_reads' HO209.out).2.2 | (with_reducible refine Kd.C_alloc ?_ _) | (with_reducible refine Kd.C_drewN ?_ _) | (with_reducible refine Kd.C_drew ?_))); (case side2 => exact (Kd.R_reads' HO209.out).2.1); (case side3 => repeat (first | exact (Kd.R_reads' HO212.out).2.2 | (with_reducible refine Kd.C_alloc ?_ _) | (with_reducible refine Kd.C_drewN ?_ _) | (with_reducible refine Kd.C_drew ?_))); (case side4 => exact (Kd.R_reads' HO212.out).2.1); rintro e w' ⟨rfl, ⟨nd, rfl⟩⟩; (try first | exact ⟨rfl, _, World.drewN_drewN _ _ _⟩ | exact ⟨rfl, _, Eq.trans (World.drewN_drewN _ _ _) (congrArg (World.drewN _) (Nat.add_assoc _ _ _))⟩))))
      go_loopg [6] kj4 (fun kq v6 w' => ∃ (x6_2 : Int), v6 = .int .i64 x6_2 ∧ Aside0 (leatlaw11_WindowSpans.l0 kq a1 t207 x6_2 a0_0 a0_1 a0_2 = some r) ∧ Aside0 (kq ≤ kj4) ∧ Aside0 (Kd.R k31 31 w' w.heap.size (fun _ => True) (.slice Ao24 t207.length co24) t207) ∧ Aside0 (w'.heap[gb203]? = some (.cells #[.int .i64 a0_0, .int .i64 a0_1, .int .i64 a0_2] 23 (0, 0))) ∧ Aside0 (Below w.heap.size w w'))
      case atStart => exact ⟨(0), (by first | rfl | (simp; done) | (simp [*]; done)), H', ⟨Nat.le_refl _⟩, ⟨by (with_reducible repeat (first | apply Kd.R_alloc | apply Kd.R_drewN | apply Kd.R_drew)); exact Kd.R_mono HO209.out (fun _ hk => trivial)⟩, ⟨by (with_reducible repeat (first | refine blk_drewN ?_ _ | refine blk_drew ?_ | refine blk_alloc ?_ _)); exact BK203.out⟩, ⟨by repeat (first | (with_reducible first | exact HB.out | apply below_alloc | apply pw_below_drewN | apply below_drew1 | refine below_set ?_ GE203.out) | exact HB.out)⟩⟩
      case round =>
       clear H'
       try clear c1; try clear p2; try clear c3; try clear c4; try clear c9; try clear c15; try clear c19; try clear hcz11_0; try clear hcz11_1; try clear hcz11_2; try clear hcz13_0; try clear hcz13_1; try clear hcz13_2; try clear hcz20_0; try clear hcz20_1; try clear hcz20_2; try clear hcz22_0; try clear hcz22_1; try clear hcz22_2; try clear hfz11_0; try clear hfz11_1; try clear hfz11_2; try clear hfz13_0; try clear hfz13_1; try clear hfz13_2; try clear hfz20_0; try clear hfz20_1; try clear hfz20_2; try clear hfz22_0; try clear hfz22_1; try clear hfz22_2; try clear p2
       obtain ⟨x6_2, rfl, HA, HK2, HO_5, BK203, HB⟩ := hrel
       cases gk with
       | zero => exact absurd HA.out (by simp [leatlaw11_WindowSpans.l0])
       | succ k2 =>
        have H := HA.out
        clear HA
        simp only [leatlaw11_WindowSpans.l0] at H
        by_cases c26 : x6_2 < (t207.length : Int)
        ·rw [if_pos c26] at H
         have c26b0 : decide (x6_2 < (t207.length : Int)) = true := decide_eq_true c26
         clear c26
         by_cases c27 : 0 ≤ x6_2
         ·rw [if_pos c27] at H
          have c27b0 : decide (0 ≤ x6_2) = true := decide_eq_true c27
          clear c27
          by_cases c28 : ((rd_T31 t207 x6_2).f0) > a1
          ·rw [if_pos c28] at H
           exact absurd H (by simp)
          ·rw [if_neg c28] at H
           have c28b0 : decide (a1 < ((rd_T31 t207 x6_2).f0)) = false := decide_eq_false c28
           clear c28
           by_cases c29 : ((rd_T31 t207 x6_2).f1) ≤ a1
           ·rw [if_pos c29] at H
            exact absurd H (by simp)
           ·rw [if_neg c29] at H
            have c29b0 : decide (((rd_T31 t207 x6_2).f1) ≤ a1) = false := decide_eq_false c29
            clear c29
            by_cases c30 : (wrap64 (((rd_T31 t207 x6_2).f1) - ((rd_T31 t207 x6_2).f0))) = a0_1
            ·rw [if_pos c30] at H
             have c30b0 : ((wrap64 (((rd_T31 t207 x6_2).f1) - ((rd_T31 t207 x6_2).f0))) == a0_1) = true := beq_iff_eq.mpr c30
             have c30b1 : ((wrap64 (((rd_T31 t207 x6_2).f1) - ((rd_T31 t207 x6_2).f0))) != a0_1) = false := bne_eq_false_iff_eq.mpr c30
             clear c30
             by_cases c31 : x6_2 > 0
             ·rw [if_pos c31] at H
              have c31b0 : decide (0 < x6_2) = true := decide_eq_true c31
              clear c31
              obtain ⟨ji32, hji32⟩ : ∃ j_ : Int, (wrap64 (x6_2 - 1)) = j_ := ⟨_, rfl⟩
              replace H : (if 0 ≤ (ji32) then (if (ji32) < (t207.length : Int) then (if (wrap64 (((rd_T31 t207 x6_2).f0) - ((rd_T31 t207 (ji32)).f0))) = a0_2 then (leatlaw11_WindowSpans.l0 k2 a1 t207 (wrap64 (x6_2 + 1)) a0_0 a0_1 a0_2) else (none)) else (none)) else (none)) = some r := by first | (rw [hji32] at H; exact H) | (simp only [hji32] at H ⊢; exact H)
              have hji32w : (IntKind.i64.wrap (x6_2 - 1)) = ji32 := (i64_w _).trans hji32
              by_cases c33 : 0 ≤ (ji32)
              ·rw [if_pos c33] at H
               have c33b0 : decide (0 ≤ (ji32)) = true := decide_eq_true c33
               clear c33
               by_cases c34 : (ji32) < (t207.length : Int)
               ·rw [if_pos c34] at H
                have c34b0 : decide ((ji32) < (t207.length : Int)) = true := decide_eq_true c34
                clear c34
                by_cases c35 : (wrap64 (((rd_T31 t207 x6_2).f0) - ((rd_T31 t207 (ji32)).f0))) = a0_2
                ·rw [if_pos c35] at H
                 have c35b0 : ((wrap64 (((rd_T31 t207 x6_2).f0) - ((rd_T31 t207 (ji32)).f0))) == a0_2) = true := beq_iff_eq.mpr c35
                 have c35b1 : ((wrap64 (((rd_T31 t207 x6_2).f0) - ((rd_T31 t207 (ji32)).f0))) != a0_2) = false := bne_eq_false_iff_eq.mpr c35
                 clear c35
                 have H' := Aside0.mk H
                 clear H
                 have p214 : 0 ≤ (x6_2 : Int) := of_decide_eq_true (by first | (with_reducible assumption) | assumption)
                 have q214 : x6_2 < (t207.length : Int) := of_decide_eq_true (by first | (with_reducible assumption) | assumption)
                 obtain ⟨ad214, e214, hx214_0, hx214_1⟩ := at_T31 (Kd.R_reads' HO_5.out).2.2 x6_2 p214 q214
                 cases e214
                 replace p214 := eq_true p214
                 replace q214 := eq_true q214
                 have p215 : 0 ≤ (x6_2 : Int) := of_decide_eq_true (by first | (with_reducible assumption) | assumption)
                 have q215 : x6_2 < (t207.length : Int) := of_decide_eq_true (by first | (with_reducible assumption) | assumption)
                 obtain ⟨ad215, e215, hx215_0, hx215_1⟩ := at_T31 (Kd.R_reads' HO_5.out).2.2 x6_2 p215 q215
                 obtain rfl : ad214 = ad215 := (by injection e215)
                 replace p215 := eq_true p215
                 replace q215 := eq_true q215
                 have p216 : 0 ≤ (x6_2 : Int) := of_decide_eq_true (by first | (with_reducible assumption) | assumption)
                 have q216 : x6_2 < (t207.length : Int) := of_decide_eq_true (by first | (with_reducible assumption) | assumption)
                 obtain ⟨ad216, e216, hx216_0, hx216_1⟩ := at_T31 (Kd.R_reads' HO_5.out).2.2 x6_2 p216 q216
                 obtain rfl : ad214 = ad216 := (by injection e216)
                 replace p216 := eq_true p216
                 replace q216 := eq_true q216
                 have p217 : 0 ≤ (x6_2 : Int) := of_decide_eq_true (by first | (with_reducible assumption) | assumption)
                 have q217 : x6_2 < (t207.length : Int) := of_decide_eq_true (by first | (with_reducible assumption) | assumption)
                 obtain ⟨ad217, e217, hx217_0, hx217_1⟩ := at_T31 (Kd.R_reads' HO_5.out).2.2 x6_2 p217 q217
                 obtain rfl : ad214 = ad217 := (by injection e217)
                 replace p217 := eq_true p217
                 replace q217 := eq_true q217
                 have hcz36_0 : wr.cell? ⟨gb203, 0, none⟩ = some (.int .i64 a0_0) := (blk_cell BK203.out 0).trans rfl
                 have hcz36_1 : wr.cell? ⟨gb203, 1, none⟩ = some (.int .i64 a0_1) := (blk_cell BK203.out 1).trans rfl
                 have hcz36_2 : wr.cell? ⟨gb203, 2, none⟩ = some (.int .i64 a0_2) := (blk_cell BK203.out 2).trans rfl
                 have hfz36_0 := blk_frozen BK203.out 0
                 have hfz36_1 := blk_frozen BK203.out 1
                 have hfz36_2 := blk_frozen BK203.out 2
                 have p218 : 0 ≤ (x6_2 : Int) := of_decide_eq_true (by first | (with_reducible assumption) | assumption)
                 have q218 : x6_2 < (t207.length : Int) := of_decide_eq_true (by first | (with_reducible assumption) | assumption)
                 obtain ⟨ad218, e218, hx218_0, hx218_1⟩ := at_T31 (Kd.R_reads' HO_5.out).2.2 x6_2 p218 q218
                 obtain rfl : ad214 = ad218 := (by injection e218)
                 replace p218 := eq_true p218
                 replace q218 := eq_true q218
                 have p219 : 0 ≤ ((ji32) : Int) := of_decide_eq_true (by first | (with_reducible assumption) | assumption)
                 have q219 : (ji32) < (t207.length : Int) := of_decide_eq_true (by first | (with_reducible assumption) | assumption)
                 obtain ⟨ad219, e219, hx219_0, hx219_1⟩ := at_T31 (Kd.R_reads' HO_5.out).2.2 (ji32) p219 q219
                 obtain rfl : ad214 = ad219 := (by injection e219)
                 replace p219 := eq_true p219
                 replace q219 := eq_true q219
                 go_wp2
                 repeat (go_quiet (fail); try go_wp2)
                 go_roundg k2
                 case measure => have := HJ4.out; have := HK2.out; omega
                 case rel => exact ⟨(wrap64 (x6_2 + 1)), (by first | rfl | (simp; done) | (simp [*]; done)), H', ⟨by have := HJ4.out; have := HK2.out; omega⟩, ⟨by (with_reducible repeat (first | apply Kd.R_alloc | apply Kd.R_drewN | apply Kd.R_drew)); exact HO_5.out⟩, ⟨by (with_reducible repeat (first | refine blk_drewN ?_ _ | refine blk_drew ?_ | refine blk_alloc ?_ _)); exact BK203.out⟩, ⟨by repeat (first | (with_reducible first | exact HB.out | apply below_alloc | apply pw_below_drewN | apply below_drew1 | refine below_set ?_ GE203.out) | exact HB.out)⟩⟩
                ·rw [if_neg c35] at H
                 exact absurd H (by simp)
               ·rw [if_neg c34] at H
                exact absurd H (by simp)
              ·rw [if_neg c33] at H
               exact absurd H (by simp)
             ·rw [if_neg c31] at H
              have c31b0 : decide (0 < x6_2) = false := decide_eq_false c31
              clear c31
              have H' := Aside0.mk H
              clear H
              have p214 : 0 ≤ (x6_2 : Int) := of_decide_eq_true (by first | (with_reducible assumption) | assumption)
              have q214 : x6_2 < (t207.length : Int) := of_decide_eq_true (by first | (with_reducible assumption) | assumption)
              obtain ⟨ad214, e214, hx214_0, hx214_1⟩ := at_T31 (Kd.R_reads' HO_5.out).2.2 x6_2 p214 q214
              cases e214
              replace p214 := eq_true p214
              replace q214 := eq_true q214
              have p215 : 0 ≤ (x6_2 : Int) := of_decide_eq_true (by first | (with_reducible assumption) | assumption)
              have q215 : x6_2 < (t207.length : Int) := of_decide_eq_true (by first | (with_reducible assumption) | assumption)
              obtain ⟨ad215, e215, hx215_0, hx215_1⟩ := at_T31 (Kd.R_reads' HO_5.out).2.2 x6_2 p215 q215
              obtain rfl : ad214 = ad215 := (by injection e215)
              replace p215 := eq_true p215
              replace q215 := eq_true q215
              have p216 : 0 ≤ (x6_2 : Int) := of_decide_eq_true (by first | (with_reducible assumption) | assumption)
              have q216 : x6_2 < (t207.length : Int) := of_decide_eq_true (by first | (with_reducible assumption) | assumption)
              obtain ⟨ad216, e216, hx216_0, hx216_1⟩ := at_T31 (Kd.R_reads' HO_5.out).2.2 x6_2 p216 q216
              obtain rfl : ad214 = ad216 := (by injection e216)
              replace p216 := eq_true p216
              replace q216 := eq_true q216
              have p217 : 0 ≤ (x6_2 : Int) := of_decide_eq_true (by first | (with_reducible assumption) | assumption)
              have q217 : x6_2 < (t207.length : Int) := of_decide_eq_true (by first | (with_reducible assumption) | assumption)
              obtain ⟨ad217, e217, hx217_0, hx217_1⟩ := at_T31 (Kd.R_reads' HO_5.out).2.2 x6_2 p217 q217
              obtain rfl : ad214 = ad217 := (by injection e217)
              replace p217 := eq_true p217
              replace q217 := eq_true q217
              have hcz37_0 : wr.cell? ⟨gb203, 0, none⟩ = some (.int .i64 a0_0) := (blk_cell BK203.out 0).trans rfl
              have hcz37_1 : wr.cell? ⟨gb203, 1, none⟩ = some (.int .i64 a0_1) := (blk_cell BK203.out 1).trans rfl
              have hcz37_2 : wr.cell? ⟨gb203, 2, none⟩ = some (.int .i64 a0_2) := (blk_cell BK203.out 2).trans rfl
              have hfz37_0 := blk_frozen BK203.out 0
              have hfz37_1 := blk_frozen BK203.out 1
              have hfz37_2 := blk_frozen BK203.out 2
              go_wp2
              repeat (go_quiet (fail); try go_wp2)
              go_roundg k2
              case measure => have := HJ4.out; have := HK2.out; omega
              case rel => exact ⟨(wrap64 (x6_2 + 1)), (by first | rfl | (simp; done) | (simp [*]; done)), H', ⟨by have := HJ4.out; have := HK2.out; omega⟩, ⟨by (with_reducible repeat (first | apply Kd.R_alloc | apply Kd.R_drewN | apply Kd.R_drew)); exact HO_5.out⟩, ⟨by (with_reducible repeat (first | refine blk_drewN ?_ _ | refine blk_drew ?_ | refine blk_alloc ?_ _)); exact BK203.out⟩, ⟨by repeat (first | (with_reducible first | exact HB.out | apply below_alloc | apply pw_below_drewN | apply below_drew1 | refine below_set ?_ GE203.out) | exact HB.out)⟩⟩
            ·rw [if_neg c30] at H
             exact absurd H (by simp)
         ·rw [if_neg c27] at H
          exact absurd H (by simp)
        ·rw [if_neg c26] at H
         have c26b0 : decide (x6_2 < (t207.length : Int)) = false := decide_eq_false c26
         clear c26
         by_cases c38 : a0_0 = 2
         ·rw [if_pos c38] at H
          have c38b0 : (a0_0 == 2) = true := beq_iff_eq.mpr c38
          have c38b1 : (a0_0 != 2) = false := bne_eq_false_iff_eq.mpr c38
          clear c38
          obtain rfl := Option.some.inj H
          have hcz39_0 : wr.cell? ⟨gb203, 0, none⟩ = some (.int .i64 a0_0) := (blk_cell BK203.out 0).trans rfl
          have hcz39_1 : wr.cell? ⟨gb203, 1, none⟩ = some (.int .i64 a0_1) := (blk_cell BK203.out 1).trans rfl
          have hcz39_2 : wr.cell? ⟨gb203, 2, none⟩ = some (.int .i64 a0_2) := (blk_cell BK203.out 2).trans rfl
          have hfz39_0 := blk_frozen BK203.out 0
          have hfz39_1 := blk_frozen BK203.out 1
          have hfz39_2 := blk_frozen BK203.out 2
          go_wp2
          repeat (go_quiet (fail); try go_wp2)
          go_ret
          exact ⟨by first | rfl | (simp [errW_none, errW_some] <;> rfl) | (simp [*, errW_none, errW_some] <;> rfl), by repeat (first | (with_reducible first | exact HB.out | apply below_alloc | apply pw_below_drewN | apply below_drew1 | refine below_set ?_ GE203.out) | exact HB.out)⟩
         ·rw [if_neg c38] at H
          have c38b0 : (a0_0 == 2) = false := beq_eq_false_iff_ne.mpr c38
          have c38b1 : (a0_0 != 2) = true := bne_iff_ne.mpr c38
          obtain rfl := Option.some.inj H
          have hcz40_0 : wr.cell? ⟨gb203, 0, none⟩ = some (.int .i64 a0_0) := (blk_cell BK203.out 0).trans rfl
          have hcz40_1 : wr.cell? ⟨gb203, 1, none⟩ = some (.int .i64 a0_1) := (blk_cell BK203.out 1).trans rfl
          have hcz40_2 : wr.cell? ⟨gb203, 2, none⟩ = some (.int .i64 a0_2) := (blk_cell BK203.out 2).trans rfl
          have hfz40_0 := blk_frozen BK203.out 0
          have hfz40_1 := blk_frozen BK203.out 1
          have hfz40_2 := blk_frozen BK203.out 2
          go_wp2
          repeat (go_quiet (fail); try go_wp2)
          go_ret
          exact ⟨by first | rfl | (simp [errW_none, errW_some] <;> rfl) | (simp [*, errW_none, errW_some] <;> rfl), by repeat (first | (with_reducible first | exact HB.out | apply below_alloc | apply pw_below_drewN | apply below_drew1 | refine below_set ?_ GE203.out) | exact HB.out)⟩
     ·replace c19 := Bool.eq_false_iff.mpr c19
      subst c19
      have H1 : (none) = some r := by rw [if_neg (show ¬ (false = true) by decide)] at H; exact H
      clear H
      have H := H1
      clear H1
      exact absurd H (by simp)
 ·replace c4 := Bool.eq_false_iff.mpr c4
  subst c4
  have H1 : (none) = some r := by rw [if_neg (show ¬ (false = true) by decide)] at H; exact H
  clear H
  have H := H1
  clear H1
  exact absurd H (by simp)
end Go.Proofs.Ytdinbnbogdadgaa.X
