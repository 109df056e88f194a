/- Proofs towards the laws of this seat, joined. No conditions beyond those typed. -/
import Derived.Test.YtdinbnbogdadgaaB10
import Derived.Test.YtdinbnbogdadgaaB11
import Derived.Test.YtdinbnbogdadgaaB17
import Derived.Test.YtdinbnbogdadgaaB16
namespace Go.Proofs.Ytdinbnbogdadgaa.X
open Go.RowKit Go.Proofs.YtdinbnbogdadgaaW.PrintWords Go.Proofs.YtdinbnbogdadgaaW.PrintLast Go.Proofs.YtdinbnbogdadgaaW.PrintMore
attribute [local go_sem] max2_int min2_int max_two min_two max_three min_three max_four min_four   -- for this text's walks alone
set_option linter.unusedVariables false
set_option linter.unusedSimpArgs false
mutual
def leatlaw11_WindowCounts.j0 : Nat → List (S37) → Bool → Int → Int → Int → Option (Bool)
 | 0, _, _, _, _, _ => none
 | k + 1, x1, x22, x416000, x416001, x416002 => if x22 = true then (some true) else (leatlaw11_WindowCounts.l0 k x1 ([] : List (S46)) ([] : List (S46)) 0 0 0 x416000 x416001 x416002)
def leatlaw11_WindowCounts.l0 : Nat → List (S37) → List (S46) → List (S46) → Int → Int → Int → Int → Int → Int → Option (Bool)
 | 0, _, _, _, _, _, _, _, _, _ => none
 | k + 1, x1, x5, x6, x7, x8, x9, x416000, x416001, x416002 => if x9 < (x1.length : Int) then (if 0 ≤ x9 then ((leatlaw11_time.f ((rd_T37 x1 x9).f1)).bind fun t419 => (if t419 = true then ((window_Spans.f k x416000 x416001 x416002 ((rd_T37 x1 x9).f1)).bind fun t421 => ((window_Put.f k x416000 x416001 x416002 2 x5 ((rd_T37 x1 x9).f0) ((rd_T37 x1 x9).f1) ((rd_T37 x1 x9).f2)).bind fun t426 => ((window_Put.f k x416000 x416001 x416002 1 x6 ((rd_T37 x1 x9).f0) ((rd_T37 x1 x9).f1) ((rd_T37 x1 x9).f2)).bind fun t430 => (leatlaw11_WindowCounts.l0 k x1 t426 t430 (wrap64 (x7 + (t421.length : Int))) (wrap64 (x8 + (wrap64 ((t421.length : Int) * ((rd_T37 x1 x9).f2))))) (wrap64 (x9 + 1)) x416000 x416001 x416002)))) else (some true))) else (none)) else (leatlaw11_WindowCounts.l1 k x5 x6 x7 x8 0)
def leatlaw11_WindowCounts.l1 : Nat → List (S46) → List (S46) → Int → Int → Int → Option (Bool)
 | 0, _, _, _, _, _ => none
 | k + 1, x5, x6, x7, x8, x11 => if x11 < (x5.length : Int) then (if 0 ≤ x11 then (leatlaw11_WindowCounts.l1 k x5 x6 (wrap64 (x7 - ((rd_T46 x5 x11).f2))) x8 (wrap64 (x11 + 1))) else (none)) else (leatlaw11_WindowCounts.l2 k x5 x6 x7 x8 0)
def leatlaw11_WindowCounts.l2 : Nat → List (S46) → List (S46) → Int → Int → Int → Option (Bool)
 | 0, _, _, _, _, _ => none
 | k + 1, x5, x6, x7, x8, x12 => if x12 < (x6.length : Int) then (if 0 ≤ x12 then (leatlaw11_WindowCounts.l2 k x5 x6 x7 (wrap64 (x8 - ((rd_T46 x6 x12).f2))) (wrap64 (x12 + 1))) else (none)) else (if x7 = 0 then (if x8 = 0 then (some ((x5.length : Int) == (x6.length : Int))) else (none)) else (none))
end
def leatlaw11_WindowCounts.f (k : Nat) (a0_0 : Int) (a0_1 : Int) (a0_2 : Int) (l1 : List (S37)) : Option (Bool) := (leatlaw11_known.f k).bind fun t416 => (if t416 = true then ((leatlaw11_fit.f k a0_0 a0_1 a0_2).bind fun t417 => (if t417 = true then (leatlaw11_WindowCounts.j0 k l1 (decide ((l1.length : Int) > 60)) a0_0 a0_1 a0_2) else (leatlaw11_WindowCounts.j0 k l1 true a0_0 a0_1 a0_2))) else (none))
theorem leatlaw11_WindowCounts.mono_l : ∀ k, (∀ y0 y1 y2 y3 y4, LeO (leatlaw11_WindowCounts.j0 k y0 y1 y2 y3 y4) (leatlaw11_WindowCounts.j0 (k + 1) y0 y1 y2 y3 y4)) ∧ (∀ y0 y1 y2 y3 y4 y5 y6 y7 y8, LeO (leatlaw11_WindowCounts.l0 k y0 y1 y2 y3 y4 y5 y6 y7 y8) (leatlaw11_WindowCounts.l0 (k + 1) y0 y1 y2 y3 y4 y5 y6 y7 y8)) ∧ (∀ y0 y1 y2 y3 y4, LeO (leatlaw11_WindowCounts.l1 k y0 y1 y2 y3 y4) (leatlaw11_WindowCounts.l1 (k + 1) y0 y1 y2 y3 y4)) ∧ (∀ y0 y1 y2 y3 y4, LeO (leatlaw11_WindowCounts.l2 k y0 y1 y2 y3 y4) (leatlaw11_WindowCounts.l2 (k + 1) y0 y1 y2 y3 y4))
 | 0 => ⟨fun _ _ _ _ _ r h => by simp [leatlaw11_WindowCounts.j0] at h, fun _ _ _ _ _ _ _ _ _ r h => by simp [leatlaw11_WindowCounts.l0] at h, fun _ _ _ _ _ r h => by simp [leatlaw11_WindowCounts.l1] at h, fun _ _ _ _ _ r h => by simp [leatlaw11_WindowCounts.l2] at h⟩
 | k + 1 => by
  obtain ⟨ih0, ih1, ih2, ih3⟩ := leatlaw11_WindowCounts.mono_l k
  refine ⟨?_, ?_, ?_, ?_⟩
  ·intro y0 y1 y2 y3 y4
   unfold leatlaw11_WindowCounts.j0
   repeat' first
   | (with_reducible exact ih0 _ _ _ _ _)
   | (with_reducible exact ih1 _ _ _ _ _ _ _ _ _)
   | (with_reducible exact ih2 _ _ _ _ _)
   | (with_reducible exact ih3 _ _ _ _ _)
   | (with_reducible exact leatlaw11_fit.mono _ _ _ _)
   | (with_reducible exact leatlaw11_known.mono _)
   | (with_reducible exact window_Put.mono _ _ _ _ _ _ _ _ _)
   | (with_reducible exact window_Spans.mono _ _ _ _ _)
   | (with_reducible exact LeO.refl _)
   | (with_reducible exact LeO.none _)
   | (with_reducible refine LeO.ite ?_ ?_)
   | (with_reducible refine LeO.bind ?_ (fun _ => ?_))
   | exact ih0 _ _ _ _ _
   | exact ih1 _ _ _ _ _ _ _ _ _
   | exact ih2 _ _ _ _ _
   | exact ih3 _ _ _ _ _
   | exact leatlaw11_fit.mono _ _ _ _
   | exact leatlaw11_known.mono _
   | exact window_Put.mono _ _ _ _ _ _ _ _ _
   | exact window_Spans.mono _ _ _ _ _
   | exact LeO.none _
   | refine LeO.ite ?_ ?_
   | refine LeO.bind ?_ (fun _ => ?_)
  ·intro y0 y1 y2 y3 y4 y5 y6 y7 y8
   unfold leatlaw11_WindowCounts.l0
   repeat' first
   | (with_reducible exact ih0 _ _ _ _ _)
   | (with_reducible exact ih1 _ _ _ _ _ _ _ _ _)
   | (with_reducible exact ih2 _ _ _ _ _)
   | (with_reducible exact ih3 _ _ _ _ _)
   | (with_reducible exact leatlaw11_fit.mono _ _ _ _)
   | (with_reducible exact leatlaw11_known.mono _)
   | (with_reducible exact window_Put.mono _ _ _ _ _ _ _ _ _)
   | (with_reducible exact window_Spans.mono _ _ _ _ _)
   | (with_reducible exact LeO.refl _)
   | (with_reducible exact LeO.none _)
   | (with_reducible refine LeO.ite ?_ ?_)
   | (with_reducible refine LeO.bind ?_ (fun _ => ?_))
   | exact ih0 _ _ _ _ _
   | exact ih1 _ _ _ _ _ _ _ _ _
   | exact ih2 _ _ _ _ _
   | exact ih3 _ _ _ _ _
   | exact leatlaw11_fit.mono _ _ _ _
   | exact leatlaw11_known.mono _
   | exact window_Put.mono _ _ _ _ _ _ _ _ _
   | exact window_Spans.mono _ _ _ _ _
   | exact LeO.none _
   | refine LeO.ite ?_ ?_
   | refine LeO.bind ?_ (fun _ => ?_)
  ·intro y0 y1 y2 y3 y4
   unfold leatlaw11_WindowCounts.l1
   repeat' first
   | (with_reducible exact ih0 _ _ _ _ _)
   | (with_reducible exact ih1 _ _ _ _ _ _ _ _ _)
   | (with_reducible exact ih2 _ _ _ _ _)
   | (with_reducible exact ih3 _ _ _ _ _)
   | (with_reducible exact leatlaw11_fit.mono _ _ _ _)
   | (with_reducible exact leatlaw11_known.mono _)
   | (with_reducible exact window_Put.mono _ _ _ _ _ _ _ _ _)
   | (with_reducible exact window_Spans.mono _ _ _ _ _)
   | (with_reducible exact LeO.refl _)
   | (with_reducible exact LeO.none _)
   | (with_reducible refine LeO.ite ?_ ?_)
   | (with_reducible refine LeO.bind ?_ (fun _ => ?_))
   | exact ih0 _ _ _ _ _
   | exact ih1 _ _ _ _ _ _ _ _ _
   | exact ih2 _ _ _ _ _
   | exact ih3 _ _ _ _ _
   | exact leatlaw11_fit.mono _ _ _ _
   | exact leatlaw11_known.mono _
   | exact window_Put.mono _ _ _ _ _ _ _ _ _
   | exact window_Spans.mono _ _ _ _ _
   | exact LeO.none _
   | refine LeO.ite ?_ ?_
   | refine LeO.bind ?_ (fun _ => ?_)
  ·intro y0 y1 y2 y3 y4
   unfold leatlaw11_WindowCounts.l2
   repeat' first
   | (with_reducible exact ih0 _ _ _ _ _)
   | (with_reducible exact ih1 _ _ _ _ _ _ _ _ _)
   | (with_reducible exact ih2 _ _ _ _ _)
   | (with_reducible exact ih3 _ _ _ _ _)
   | (with_reducible exact leatlaw11_fit.mono _ _ _ _)
   | (with_reducible exact leatlaw11_known.mono _)
   | (with_reducible exact window_Put.mono _ _ _ _ _ _ _ _ _)
   | (with_reducible exact window_Spans.mono _ _ _ _ _)
   | (with_reducible exact LeO.refl _)
   | (with_reducible exact LeO.none _)
   | (with_reducible refine LeO.ite ?_ ?_)
   | (with_reducible refine LeO.bind ?_ (fun _ => ?_))
   | exact ih0 _ _ _ _ _
   | exact ih1 _ _ _ _ _ _ _ _ _
   | exact ih2 _ _ _ _ _
   | exact ih3 _ _ _ _ _
   | exact leatlaw11_fit.mono _ _ _ _
   | exact leatlaw11_known.mono _
   | exact window_Put.mono _ _ _ _ _ _ _ _ _
   | exact window_Spans.mono _ _ _ _ _
   | exact LeO.none _
   | refine LeO.ite ?_ ?_
   | refine LeO.bind ?_ (fun _ => ?_)
theorem leatlaw11_WindowCounts.mono : ∀ a0 a1 a2 a3 k, LeO (leatlaw11_WindowCounts.f k a0 a1 a2 a3) (leatlaw11_WindowCounts.f (k + 1) a0 a1 a2 a3) := by
 intro a0 a1 a2 a3 k
 obtain ⟨ih0, ih1, ih2, ih3⟩ := leatlaw11_WindowCounts.mono_l k
 unfold leatlaw11_WindowCounts.f
 repeat' first
   | (with_reducible exact ih0 _ _ _ _ _)
   | (with_reducible exact ih1 _ _ _ _ _ _ _ _ _)
   | (with_reducible exact ih2 _ _ _ _ _)
   | (with_reducible exact ih3 _ _ _ _ _)
   | (with_reducible exact leatlaw11_fit.mono _ _ _ _)
   | (with_reducible exact leatlaw11_known.mono _)
   | (with_reducible exact window_Put.mono _ _ _ _ _ _ _ _ _)
   | (with_reducible exact window_Spans.mono _ _ _ _ _)
   | (with_reducible exact LeO.refl _)
   | (with_reducible exact LeO.none _)
   | (with_reducible refine LeO.ite ?_ ?_)
   | (with_reducible refine LeO.bind ?_ (fun _ => ?_))
   | exact ih0 _ _ _ _ _
   | exact ih1 _ _ _ _ _ _ _ _ _
   | exact ih2 _ _ _ _ _
   | exact ih3 _ _ _ _ _
   | exact leatlaw11_fit.mono _ _ _ _
   | exact leatlaw11_known.mono _
   | exact window_Put.mono _ _ _ _ _ _ _ _ _
   | exact window_Spans.mono _ _ _ _ _
   | exact LeO.none _
   | refine LeO.ite ?_ ?_
   | refine LeO.bind ?_ (fun _ => ?_)
def leatlaw11_WindowCounts.T12 : Bool × List (List Nat × List Nat) := (true, [([], []), ([], []), ([], []), ([1, 2], [1, 2]), ([3], [3]), ([4], [4]), ([0, 5], [0, 5]), ([6], [6]), ([7, 6, 0, 1, 2, 3, 4, 5, 6, 7], [7])])
def leatlaw11_WindowCounts.B12 : List Nat := [0, 0, 0, 6, 14, 30, 63, 127, 255]
theorem leatlaw11_WindowCounts.tab12 : rtab .any (opsOf Try.f6 12) = leatlaw11_WindowCounts.T12 := by kernel_rfl
theorem leatlaw11_WindowCounts.bits12 : waitsOk leatlaw11_WindowCounts.T12.2 leatlaw11_WindowCounts.B12 = true := by kernel_rfl
def leatlaw11_WindowCounts.T13 : Bool × List (List Nat × List Nat) := (true, [([], []), ([], []), ([0, 1], [0, 1]), ([], []), ([], []), ([], []), ([], []), ([5, 6], [5, 6]), ([7], [7]), ([8], [8]), ([4, 9], [4, 9]), ([3, 10], [3, 10]), ([2, 0, 1, 2], [0, 2]), ([11, 12, 0, 1, 2, 3, 4, 5, 6, 7, 8, 9, 10, 11, 12], [3, 11])])
def leatlaw11_WindowCounts.B13 : List Nat := [0, 0, 3, 0, 0, 0, 0, 96, 224, 480, 1008, 2040, 7, 8191]
theorem leatlaw11_WindowCounts.tab13 : rtab .any (opsOf Try.f6 13) = leatlaw11_WindowCounts.T13 := by kernel_rfl
theorem leatlaw11_WindowCounts.bits13 : waitsOk leatlaw11_WindowCounts.T13.2 leatlaw11_WindowCounts.B13 = true := by kernel_rfl
def leatlaw11_WindowCounts.T14 : Bool × List (List Nat × List Nat) := (true, [([], []), ([], []), ([], []), ([], []), ([2, 3], [2, 3]), ([4], [4]), ([0, 1, 5], [0, 1, 5]), ([], []), ([], []), ([], []), ([], []), ([9, 10], [9, 10]), ([11], [11]), ([7, 8, 12, 6], [7, 8, 12]), ([6, 13, 0, 1, 2, 3, 4, 5, 6], [1, 6]), ([13, 14, 0, 1, 2, 3, 4, 5, 6, 7, 8, 9, 10, 11, 12, 13, 14], [8, 13])])
def leatlaw11_WindowCounts.B14 : List Nat := [0, 0, 0, 0, 12, 28, 63, 0, 0, 0, 0, 1536, 3584, 8191, 16383, 32767]
theorem leatlaw11_WindowCounts.tab14 : rtab .any (opsOf Try.f6 14) = leatlaw11_WindowCounts.T14 := by kernel_rfl
theorem leatlaw11_WindowCounts.bits14 : waitsOk leatlaw11_WindowCounts.T14.2 leatlaw11_WindowCounts.B14 = true := by kernel_rfl
set_option maxHeartbeats 8000000 in
set_option maxRecDepth 100000 in
theorem leatlaw11_WindowCounts.calls (k : Nat) (a0_0 : Int) (a0_1 : Int) (a0_2 : Int) (A1 : Option Addr) (c1 : Nat) (l1 : List (S37)) (r : Bool) (w : World) (hr1 : Kd.C k37 w A1 l1.length l1) (hc1 : l1.length ≤ c1) (h : leatlaw11_WindowCounts.f k a0_0 a0_1 a0_2 l1 = some r) :
  Calls Try.prog 6 #[.agg #[.int .i64 a0_0, .int .i64 a0_1, .int .i64 a0_2], .slice A1 l1.length c1] w fun e w' => e = .returned (.bool r) ∧ Below w.heap.size w w' := by
 have hu23 := Try.underlying23
 have hu37 := Try.underlying37
 have HR1 := Aside0.mk hr1
 have HC1 := Aside0.mk hc1
 clear hr1 hc1
 have HB := Aside0.mk (Below.refl w.heap.size w)
 have H : ((leatlaw11_known.f k).bind fun t416 => (if t416 = true then ((leatlaw11_fit.f k a0_0 a0_1 a0_2).bind fun t417 => (if t417 = true then (leatlaw11_WindowCounts.j0 k l1 (decide ((l1.length : Int) > 60)) a0_0 a0_1 a0_2) else (leatlaw11_WindowCounts.j0 k l1 true a0_0 a0_1 a0_2))) else (none))) = some r := h
 clear h
 replace H := Option.bind_eq_some_iff.mp H
 obtain ⟨t416, A30, H⟩ := H
 replace H : (if t416 = true then ((leatlaw11_fit.f k a0_0 a0_1 a0_2).bind fun t417 => (if t417 = true then (leatlaw11_WindowCounts.j0 k l1 (decide ((l1.length : Int) > 60)) a0_0 a0_1 a0_2) else (leatlaw11_WindowCounts.j0 k l1 true a0_0 a0_1 a0_2))) else (none)) = some r := H
 have A3 := Aside0.mk A30
 clear A30
 by_cases c4 : t416 = true
 ·subst c4
  have H1 : ((leatlaw11_fit.f k a0_0 a0_1 a0_2).bind fun t417 => (if t417 = true then (leatlaw11_WindowCounts.j0 k l1 (decide ((l1.length : Int) > 60)) a0_0 a0_1 a0_2) else (leatlaw11_WindowCounts.j0 k l1 true a0_0 a0_1 a0_2))) = some r := by rw [if_pos rfl] at H; exact H
  clear H
  have H := H1
  clear H1
  have HC5 := Aside0.mk H
  clear H
  go_enter Try.func6, Try.ntmps6
  go_upto_region 3 with (first | ((with_reducible refine gate_dst (N := 2) rfl ?_); (try (refine gate_guard (by rfl) ?_; dsimp only)); refine box_event ?hg (N := 2) ?hd (cs := #[.int .i64 a0_0, .int .i64 a0_1, .int .i64 a0_2]) (t := 23) ?hr ?_; (case hd => rfl); (case hg => rfl); (case hr => first | (go_simp; done) | (go_simp; rfl)); intro gb415 hg w6 hbox hb; have n0_ := Aside0.mk (below_step (by repeat (first | (with_reducible first | exact HB.out | apply below_alloc | apply pw_below_drewN | apply below_drew1) | exact HB.out)) hb); have n1_ := Aside0.mk (hbox); have n2_ := Aside0.mk ((by rw [hg]; exact (below_size (by repeat (first | (with_reducible first | exact HB.out | apply below_alloc | apply pw_below_drewN | apply below_drew1) | exact HB.out))) : w.heap.size ≤ gb415)); have n3_ := Aside0.mk ((by rw [hg]; exact (below_size (by repeat (first | (with_reducible first | exact HB.out | apply below_alloc | apply pw_below_drewN | apply below_drew1) | exact HB.out))) : w.heap.size ≤ gb415)); clear HB; have HB := n0_; have BK415 := n1_; have GW415 := n2_; have GE415 := n3_; clear n0_ n1_ n2_ n3_; clear hb hbox hg) | ((with_reducible refine gate_callee (f := 12) rfl ?_); refine goesL_ (some 13) rfl rfl Try.func12 (by kernel_rfl) rfl #[] rfl (by (try simp only [List.map_toArray, List.map_cons, List.map_nil]); first | done | rfl | (simp only [List.length_drop, List.length_take]; rfl)) ?_; (with_reducible refine (leatlaw11_known.calls k  true _ A3.out).mono ?_); rintro e w7 ⟨rfl, hb⟩; refine ⟨_, rfl, ?_⟩; have n0_ := Aside0.mk (blk_below (g := gb415) (o := .cells #[.int .i64 a0_0, .int .i64 a0_1, .int .i64 a0_2] 23 (0, 0)) (by (with_reducible repeat (first | refine blk_drewN ?_ _ | refine blk_drew ?_ | refine blk_alloc ?_ _)); exact BK415.out) hb); have n1_ := Aside0.mk (below_step (by repeat (first | (with_reducible first | exact HB.out | apply below_alloc | apply pw_below_drewN | apply below_drew1 | refine below_set ?_ GE415.out) | exact HB.out)) hb); clear BK415; clear HB; have BK415 := n0_; have HB := n1_; clear n0_ n1_; (try clear hb); (try clear hb2); (try clear hk); (try clear hi)))
  (try simp only [Act.put, List.setIfInBounds_toArray, List.set_cons_zero, List.set_cons_succ])
  go_cut [22] (fun v22 wc => ∃ (kq : Nat) (x22_4 : Bool), v22 = .bool x22_4 ∧ Aside0 (leatlaw11_WindowCounts.j0 kq l1 x22_4 a0_0 a0_1 a0_2 = some r) ∧ Aside0 (kq ≤ k) ∧ Aside0 (wc.heap[gb415]? = some (.cells #[.int .i64 a0_0, .int .i64 a0_1, .int .i64 a0_2] 23 (0, 0))) ∧ Aside0 (Below w.heap.size w wc))
  case first =>
   have H := HC5.out
   clear HC5
   replace H := Option.bind_eq_some_iff.mp H
   obtain ⟨t417, A80, H⟩ := H
   replace H : (if t417 = true then (leatlaw11_WindowCounts.j0 k l1 (decide ((l1.length : Int) > 60)) a0_0 a0_1 a0_2) else (leatlaw11_WindowCounts.j0 k l1 true a0_0 a0_1 a0_2)) = some r := H
   have A8 := Aside0.mk A80
   clear A80
   by_cases c9 : t417 = true
   ·subst c9
    have H1 : (leatlaw11_WindowCounts.j0 k l1 (decide ((l1.length : Int) > 60)) a0_0 a0_1 a0_2) = some r := by rw [if_pos rfl] at H; exact H
    clear H
    have H := H1
    clear H1
    have H' := Aside0.mk H
    clear H
    have hcz10_0 : w7.cell? ⟨gb415, 0, none⟩ = some (.int .i64 a0_0) := (blk_cell BK415.out 0).trans rfl
    have hcz10_1 : w7.cell? ⟨gb415, 1, none⟩ = some (.int .i64 a0_1) := (blk_cell BK415.out 1).trans rfl
    have hcz10_2 : w7.cell? ⟨gb415, 2, none⟩ = some (.int .i64 a0_2) := (blk_cell BK415.out 2).trans rfl
    have hfz10_0 := blk_frozen BK415.out 0
    have hfz10_1 := blk_frozen BK415.out 1
    have hfz10_2 := blk_frozen BK415.out 2
    go_wp2_with (first | ((with_reducible refine gate_callee (f := 13) rfl ?_); refine goesL_ (some 16) rfl rfl Try.func13 (by kernel_rfl) rfl #[.agg #[.int .i64 a0_0, .int .i64 a0_1, .int .i64 a0_2]] rfl (by (try simp only [List.map_toArray, List.map_cons, List.map_nil]); first | done | rfl | (simp only [List.length_drop, List.length_take]; rfl)) ?_; (with_reducible refine (leatlaw11_fit.calls k a0_0 a0_1 a0_2 true _ A8.out).mono ?_); rintro e w11 ⟨rfl, hb⟩; refine ⟨_, rfl, ?_⟩; have n0_ := Aside0.mk (blk_below (g := gb415) (o := .cells #[.int .i64 a0_0, .int .i64 a0_1, .int .i64 a0_2] 23 (0, 0)) (by (with_reducible repeat (first | refine blk_drewN ?_ _ | refine blk_drew ?_ | refine blk_alloc ?_ _)); exact BK415.out) hb); have n1_ := Aside0.mk (below_step (by repeat (first | (with_reducible first | exact HB.out | apply below_alloc | apply pw_below_drewN | apply below_drew1 | refine below_set ?_ GE415.out) | exact HB.out)) hb); clear BK415; clear HB; have BK415 := n0_; have HB := n1_; clear n0_ n1_; (try clear hb); (try clear hb2); (try clear hk); (try clear hi)))
    go_meet
    case rel => exact ⟨_, (decide ((l1.length : Int) > 60)), (by first | rfl | (simp; done) | (simp [*]; done)), H', ⟨by first | omega | exact Nat.le_refl _⟩, ⟨by (with_reducible repeat (first | refine blk_drewN ?_ _ | refine blk_drew ?_ | refine blk_alloc ?_ _)); exact BK415.out⟩, ⟨by repeat (first | (with_reducible first | exact HB.out | apply below_alloc | apply pw_below_drewN | apply below_drew1 | refine below_set ?_ GE415.out) | exact HB.out)⟩⟩
   ·replace c9 := Bool.eq_false_iff.mpr c9
    subst c9
    have H1 : (leatlaw11_WindowCounts.j0 k l1 true a0_0 a0_1 a0_2) = some r := by rw [if_neg (show ¬ (false = true) by decide)] at H; exact H
    clear H
    have H := H1
    clear H1
    have H' := Aside0.mk H
    clear H
    have hcz12_0 : w7.cell? ⟨gb415, 0, none⟩ = some (.int .i64 a0_0) := (blk_cell BK415.out 0).trans rfl
    have hcz12_1 : w7.cell? ⟨gb415, 1, none⟩ = some (.int .i64 a0_1) := (blk_cell BK415.out 1).trans rfl
    have hcz12_2 : w7.cell? ⟨gb415, 2, none⟩ = some (.int .i64 a0_2) := (blk_cell BK415.out 2).trans rfl
    have hfz12_0 := blk_frozen BK415.out 0
    have hfz12_1 := blk_frozen BK415.out 1
    have hfz12_2 := blk_frozen BK415.out 2
    go_wp2_with (first | ((with_reducible refine gate_callee (f := 13) rfl ?_); refine goesL_ (some 16) rfl rfl Try.func13 (by kernel_rfl) rfl #[.agg #[.int .i64 a0_0, .int .i64 a0_1, .int .i64 a0_2]] rfl (by (try simp only [List.map_toArray, List.map_cons, List.map_nil]); first | done | rfl | (simp only [List.length_drop, List.length_take]; rfl)) ?_; (with_reducible refine (leatlaw11_fit.calls k a0_0 a0_1 a0_2 false _ A8.out).mono ?_); rintro e w13 ⟨rfl, hb⟩; refine ⟨_, rfl, ?_⟩; have n0_ := Aside0.mk (blk_below (g := gb415) (o := .cells #[.int .i64 a0_0, .int .i64 a0_1, .int .i64 a0_2] 23 (0, 0)) (by (with_reducible repeat (first | refine blk_drewN ?_ _ | refine blk_drew ?_ | refine blk_alloc ?_ _)); exact BK415.out) hb); have n1_ := Aside0.mk (below_step (by repeat (first | (with_reducible first | exact HB.out | apply below_alloc | apply pw_below_drewN | apply below_drew1 | refine below_set ?_ GE415.out) | exact HB.out)) hb); clear BK415; clear HB; have BK415 := n0_; have HB := n1_; clear n0_ n1_; (try clear hb); (try clear hb2); (try clear hk); (try clear hi)))
    go_meet
    case rel => exact ⟨_, (true), (by first | rfl | (simp; done) | (simp [*]; done)), H', ⟨by first | omega | exact Nat.le_refl _⟩, ⟨by (with_reducible repeat (first | refine blk_drewN ?_ _ | refine blk_drew ?_ | refine blk_alloc ?_ _)); exact BK415.out⟩, ⟨by repeat (first | (with_reducible first | exact HB.out | apply below_alloc | apply pw_below_drewN | apply below_drew1 | refine below_set ?_ GE415.out) | exact HB.out)⟩⟩
  case rest =>
   clear HC5
   try clear c1; try clear p2; try clear c4; try clear c6; try clear c9; try clear c12; try clear c13; try clear hcz10_0; try clear hcz10_1; try clear hcz10_2; try clear hcz12_0; try clear hcz12_1; try clear hcz12_2; try clear hfz10_0; try clear hfz10_1; try clear hfz10_2; try clear hfz12_0; try clear hfz12_1; try clear hfz12_2
   obtain ⟨kq, x22_4, rfl, HA, HJ4, BK415, HB⟩ := hcut
   cases kq with
   | zero => exact absurd HA.out (by simp [leatlaw11_WindowCounts.j0])
   | succ kj4 =>
    have H := HA.out
    clear HA
    simp only [leatlaw11_WindowCounts.j0] at H
    by_cases c14 : x22_4 = true
    ·subst c14
     have H1 : (some true) = some r := by rw [if_pos rfl] at H; exact H
     clear H
     have H := H1
     clear H1
     obtain rfl := Option.some.inj H
     go_wp2
     go_ret
     exact ⟨by first | rfl | (simp [errW_none, errW_some] <;> rfl) | (simp [*, errW_none, errW_some] <;> rfl), by repeat (first | (with_reducible first | exact HB.out | apply below_alloc | apply pw_below_drewN | apply below_drew1 | refine below_set ?_ GE415.out) | exact HB.out)⟩
    ·replace c14 := Bool.eq_false_iff.mpr c14
     subst c14
     have H1 : (leatlaw11_WindowCounts.l0 kj4 l1 ([] : List (S46)) ([] : List (S46)) 0 0 0 a0_0 a0_1 a0_2) = some r := by rw [if_neg (show ¬ (false = true) by decide)] at H; exact H
     clear H
     have H := H1
     clear H1
     have H' := Aside0.mk H
     clear H
     go_wp2
     go_loopg [5, 6, 7, 8, 9] kj4 (fun kq v5 v6 v7 v8 v9 w' => ∃ (x5_2 : List (S46)) (x6_2 : List (S46)) (x7_2 : Int) (x8_2 : Int) (x9_2 : Int), v7 = .int .i64 x7_2 ∧ v8 = .int .i64 x8_2 ∧ v9 = .int .i64 x9_2 ∧ Aside0 (leatlaw11_WindowCounts.l0 kq l1 x5_2 x6_2 x7_2 x8_2 x9_2 a0_0 a0_1 a0_2 = some r) ∧ Aside0 (kq ≤ kj4) ∧ Aside0 (Kd.R k46 46 w' w.heap.size (fun k_ => some k_ ≠ (v6 : Value).ownBlock) v5 x5_2) ∧ Aside0 (Kd.R k46 46 w' w.heap.size (fun k_ => some k_ ≠ (v5 : Value).ownBlock) v6 x6_2) ∧ Aside0 (w'.heap[gb415]? = some (.cells #[.int .i64 a0_0, .int .i64 a0_1, .int .i64 a0_2] 23 (0, 0))) ∧ Aside0 (Below w.heap.size w w'))
     case atStart => exact ⟨(([] : List (S46))), (([] : List (S46))), (0), (0), (0), (by first | rfl | (simp; done) | (simp [*]; done)), (by first | rfl | (simp; done) | (simp [*]; done)), (by first | rfl | (simp; done) | (simp [*]; done)), H', ⟨Nat.le_refl _⟩, ⟨by first | exact Kd.R_nil _ _ _ _ _ | exact Kd.N_nil _ _ _ _ _ | exact Kd.V_nil _ _ _ _ _ | exact Kd.Q_nil _ _ _ _ _ | exact Kd.S_nil _ _ _ _ _⟩, ⟨by first | exact Kd.R_nil _ _ _ _ _ | exact Kd.N_nil _ _ _ _ _ | exact Kd.V_nil _ _ _ _ _ | exact Kd.Q_nil _ _ _ _ _ | exact Kd.S_nil _ _ _ _ _⟩, ⟨by (with_reducible repeat (first | refine blk_drewN ?_ _ | refine blk_drew ?_ | refine blk_alloc ?_ _)); exact BK415.out⟩, ⟨by repeat (first | (with_reducible first | exact HB.out | apply below_alloc | apply pw_below_drewN | apply below_drew1 | refine below_set ?_ GE415.out) | exact HB.out)⟩⟩
     case round =>
      clear H'
      try clear c1; try clear p2; try clear c4; try clear c6; try clear c9; try clear c12; try clear c13; try clear c14; try clear hcz10_0; try clear hcz10_1; try clear hcz10_2; try clear hcz12_0; try clear hcz12_1; try clear hcz12_2; try clear hfz10_0; try clear hfz10_1; try clear hfz10_2; try clear hfz12_0; try clear hfz12_1; try clear hfz12_2; try clear p2
      obtain ⟨x5_2, x6_2, x7_2, x8_2, x9_2, rfl, rfl, rfl, HA, HK2, HO_5, HO_6, BK415, HB⟩ := hrel
      cases gk with
      | zero => exact absurd HA.out (by simp [leatlaw11_WindowCounts.l0])
      | succ k2 =>
       have H := HA.out
       clear HA
       simp only [leatlaw11_WindowCounts.l0] at H
       by_cases c15 : x9_2 < (l1.length : Int)
       ·rw [if_pos c15] at H
        have c15b0 : decide (x9_2 < (l1.length : Int)) = true := decide_eq_true c15
        clear c15
        by_cases c16 : 0 ≤ x9_2
        ·rw [if_pos c16] at H
         have c16b0 : decide (0 ≤ x9_2) = true := decide_eq_true c16
         clear c16
         replace H := Option.bind_eq_some_iff.mp H
         obtain ⟨t419, A170, H⟩ := H
         replace H : (if t419 = true then ((window_Spans.f k2 a0_0 a0_1 a0_2 ((rd_T37 l1 x9_2).f1)).bind fun t421 => ((window_Put.f k2 a0_0 a0_1 a0_2 2 x5_2 ((rd_T37 l1 x9_2).f0) ((rd_T37 l1 x9_2).f1) ((rd_T37 l1 x9_2).f2)).bind fun t426 => ((window_Put.f k2 a0_0 a0_1 a0_2 1 x6_2 ((rd_T37 l1 x9_2).f0) ((rd_T37 l1 x9_2).f1) ((rd_T37 l1 x9_2).f2)).bind fun t430 => (leatlaw11_WindowCounts.l0 k2 l1 t426 t430 (wrap64 (x7_2 + (t421.length : Int))) (wrap64 (x8_2 + (wrap64 ((t421.length : Int) * ((rd_T37 l1 x9_2).f2))))) (wrap64 (x9_2 + 1)) a0_0 a0_1 a0_2)))) else (some true)) = some r := H
         have A17 := Aside0.mk A170
         clear A170
         by_cases c18 : t419 = true
         ·subst c18
          have H1 : ((window_Spans.f k2 a0_0 a0_1 a0_2 ((rd_T37 l1 x9_2).f1)).bind fun t421 => ((window_Put.f k2 a0_0 a0_1 a0_2 2 x5_2 ((rd_T37 l1 x9_2).f0) ((rd_T37 l1 x9_2).f1) ((rd_T37 l1 x9_2).f2)).bind fun t426 => ((window_Put.f k2 a0_0 a0_1 a0_2 1 x6_2 ((rd_T37 l1 x9_2).f0) ((rd_T37 l1 x9_2).f1) ((rd_T37 l1 x9_2).f2)).bind fun t430 => (leatlaw11_WindowCounts.l0 k2 l1 t426 t430 (wrap64 (x7_2 + (t421.length : Int))) (wrap64 (x8_2 + (wrap64 ((t421.length : Int) * ((rd_T37 l1 x9_2).f2))))) (wrap64 (x9_2 + 1)) a0_0 a0_1 a0_2)))) = some r := by rw [if_pos rfl] at H; exact H
          clear H
          have H := H1
          clear H1
          replace H := Option.bind_eq_some_iff.mp H
          obtain ⟨t421, A190, H⟩ := H
          replace H : ((window_Put.f k2 a0_0 a0_1 a0_2 2 x5_2 ((rd_T37 l1 x9_2).f0) ((rd_T37 l1 x9_2).f1) ((rd_T37 l1 x9_2).f2)).bind fun t426 => ((window_Put.f k2 a0_0 a0_1 a0_2 1 x6_2 ((rd_T37 l1 x9_2).f0) ((rd_T37 l1 x9_2).f1) ((rd_T37 l1 x9_2).f2)).bind fun t430 => (leatlaw11_WindowCounts.l0 k2 l1 t426 t430 (wrap64 (x7_2 + (t421.length : Int))) (wrap64 (x8_2 + (wrap64 ((t421.length : Int) * ((rd_T37 l1 x9_2).f2))))) (wrap64 (x9_2 + 1)) a0_0 a0_1 a0_2))) = some r := H
          have A19 := Aside0.mk A190
          clear A190
          replace H := Option.bind_eq_some_iff.mp H
          obtain ⟨t426, A200, H⟩ := H
          replace H : ((window_Put.f k2 a0_0 a0_1 a0_2 1 x6_2 ((rd_T37 l1 x9_2).f0) ((rd_T37 l1 x9_2).f1) ((rd_T37 l1 x9_2).f2)).bind fun t430 => (leatlaw11_WindowCounts.l0 k2 l1 t426 t430 (wrap64 (x7_2 + (t421.length : Int))) (wrap64 (x8_2 + (wrap64 ((t421.length : Int) * ((rd_T37 l1 x9_2).f2))))) (wrap64 (x9_2 + 1)) a0_0 a0_1 a0_2)) = some r := H
          have A20 := Aside0.mk A200
          clear A200
          replace H := Option.bind_eq_some_iff.mp H
          obtain ⟨t430, A210, H⟩ := H
          replace H : (leatlaw11_WindowCounts.l0 k2 l1 t426 t430 (wrap64 (x7_2 + (t421.length : Int))) (wrap64 (x8_2 + (wrap64 ((t421.length : Int) * ((rd_T37 l1 x9_2).f2))))) (wrap64 (x9_2 + 1)) a0_0 a0_1 a0_2) = some r := H
          have A21 := Aside0.mk A210
          clear A210
          have H' := Aside0.mk H
          clear H
          have p418 : 0 ≤ (x9_2 : Int) := of_decide_eq_true (by first | (with_reducible assumption) | assumption)
          have q418 : x9_2 < (l1.length : Int) := of_decide_eq_true (by first | (with_reducible assumption) | assumption)
          obtain ⟨ad418, e418, hx418_0, hx418_1, hx418_2⟩ := at_T37 HR1.out x9_2 p418 q418
          cases e418
          replace hx418_0 := (HB.out.cell (World.block_lt_of_cell? w _ hx418_0)).trans hx418_0
          replace hx418_1 := (HB.out.cell (World.block_lt_of_cell? w _ hx418_1)).trans hx418_1
          replace hx418_2 := (HB.out.cell (World.block_lt_of_cell? w _ hx418_2)).trans hx418_2
          replace p418 := eq_true p418
          replace q418 := eq_true q418
          try go_wp2_with (first | ((with_reducible refine gate_callee (f := 14) rfl ?_); refine goesL_ (some 34) rfl rfl Try.func14 (by kernel_rfl) rfl #[.int .i64 ((rd_T37 l1 x9_2).f1)] rfl (by (try simp only [List.map_toArray, List.map_cons, List.map_nil]); first | done | rfl | (simp only [List.length_drop, List.length_take]; rfl)) ?_; (with_reducible refine (leatlaw11_time.calls ((rd_T37 l1 x9_2).f1) true _ A17.out).mono ?_); rintro e w' ⟨rfl, ⟨nd, rfl⟩⟩; refine ⟨_, rfl, ?_⟩))
          (try (rw [drewN_self wr]; generalize hq_ : World.drewN wr _ = wr; have n0_ : Aside0 (Kd.R k46 46 wr w.heap.size (fun k_ => some k_ ≠ (u6 : Value).ownBlock) u5 x5_2) := ⟨by rw [← hq_]; exact (by (with_reducible repeat (first | apply Kd.R_alloc | apply Kd.R_drewN | apply Kd.R_drew)); exact HO_5.out)⟩; have n1_ : Aside0 (Kd.R k46 46 wr w.heap.size (fun k_ => some k_ ≠ (u5 : Value).ownBlock) u6 x6_2) := ⟨by rw [← hq_]; exact (by (with_reducible repeat (first | apply Kd.R_alloc | apply Kd.R_drewN | apply Kd.R_drew)); exact HO_6.out)⟩; have n2_ : Aside0 (wr.heap[gb415]? = some (.cells #[.int .i64 a0_0, .int .i64 a0_1, .int .i64 a0_2] 23 (0, 0))) := ⟨by rw [← hq_]; exact (by (with_reducible repeat (first | refine blk_drewN ?_ _ | refine blk_drew ?_ | refine blk_alloc ?_ _)); exact BK415.out)⟩; have n3_ : Aside0 (Below w.heap.size w wr) := ⟨by rw [← hq_]; exact (by repeat (first | (with_reducible first | exact HB.out | apply below_alloc | apply pw_below_drewN | apply below_drew1 | refine below_set ?_ GE415.out) | exact HB.out))⟩; clear HO_5 HO_6 BK415 HB hq_; have HO_5 := n0_; have HO_6 := n1_; have BK415 := n2_; have HB := n3_; clear n0_ n1_ n2_ n3_))
          have n0_ := Aside0.mk (Kd.R_drew HO_5.out)
          have n1_ := Aside0.mk (Kd.R_drew HO_6.out)
          have n2_ := Aside0.mk (blk_drew BK415.out)
          have n3_ := Aside0.mk (below_drew1 HB.out)
          clear HO_5
          clear HO_6
          clear BK415
          clear HB
          have HO_5 := n0_
          have HO_6 := n1_
          have BK415 := n2_
          have HB := n3_
          clear n0_ n1_ n2_ n3_
          have p420 : 0 ≤ (x9_2 : Int) := of_decide_eq_true (by first | (with_reducible assumption) | assumption)
          have q420 : x9_2 < (l1.length : Int) := of_decide_eq_true (by first | (with_reducible assumption) | assumption)
          obtain ⟨ad420, e420, hx420_0, hx420_1, hx420_2⟩ := at_T37 HR1.out x9_2 p420 q420
          have hw420_2 := hx420_2
          have hw420_1 := hx420_1
          have hw420_0 := hx420_0
          obtain rfl : ad418 = ad420 := (by injection e420)
          replace hx420_0 := (HB.out.cell (World.block_lt_of_cell? w _ hx420_0)).trans hx420_0
          replace hx420_1 := (HB.out.cell (World.block_lt_of_cell? w _ hx420_1)).trans hx420_1
          replace hx420_2 := (HB.out.cell (World.block_lt_of_cell? w _ hx420_2)).trans hx420_2
          replace p420 := eq_true p420
          replace q420 := eq_true q420
          refine start_ (n := 9) (S := fun w' => w'.cell? ⟨gb415, 0, none⟩ = some (.int .i64 a0_0) ∧ w'.cell? ⟨gb415, 1, none⟩ = some (.int .i64 a0_1) ∧ w'.cell? ⟨gb415, 2, none⟩ = some (.int .i64 a0_2) ∧ w'.cell? (ad418.add ((x9_2).toNat * 3)) = some (.int .i64 ((rd_T37 l1 x9_2).f0)) ∧ w'.cell? ⟨(ad418.add ((x9_2).toNat * 3)).block, (ad418.add ((x9_2).toNat * 3)).off + 1, none⟩ = some (.int .i64 ((rd_T37 l1 x9_2).f1)) ∧ w'.cell? ⟨(ad418.add ((x9_2).toNat * 3)).block, (ad418.add ((x9_2).toNat * 3)).off + 2, none⟩ = some (.int .i64 ((rd_T37 l1 x9_2).f2))) (ds := []) #[false, false, false, false, false, false, false, false, false] (by kernel_rfl) rfl rfl ⟨(blk_cell BK415.out 0).trans rfl, (blk_cell BK415.out 1).trans rfl, (blk_cell BK415.out 2).trans rfl, ((HB.out.cell (World.block_lt_of_cell? w _ hw420_0)).trans hw420_0), ((HB.out.cell (World.block_lt_of_cell? w _ hw420_1)).trans hw420_1), ((HB.out.cell (World.block_lt_of_cell? w _ hw420_2)).trans hw420_2)⟩ (fun hHeld => ?_); refine with_tabW leatlaw11_WindowCounts.tab12 leatlaw11_WindowCounts.bits12 (fun HT_ HW_ => ?_)
          generalize wr.drew = w22 at HO_5 HO_6 BK415 HB hx420_0 hx420_1 hx420_2 hHeld ⊢
          refine pure_ (i := 1) (N := some 37) (v := ?_) (a' := ?_) #[false, true, false, false, false, false, false, false, false] rfl rfl (any_of HT_.out (by kernel_rfl)) (fun _ _ _ h => h) (Or.inl ⟨by rfl, ?_⟩) ?_ ?_
          rotate_left
          ·intro w'
           go_simp
           with_reducible rfl
          rotate_left
          ·simp only [Act.put, List.setIfInBounds_toArray, List.set_cons_zero, List.set_cons_succ, i64_w, i32_w]
           rfl
          refine pure_ (i := 2) (N := some 38) (v := ?_) (a' := ?_) #[false, true, true, false, false, false, false, false, false] rfl rfl (any_of HT_.out (by kernel_rfl)) (fun _ _ _ h => h) (Or.inl ⟨by rfl, ?_⟩) ?_ ?_
          rotate_left
          ·intro w'
           go_simp
           with_reducible rfl
          rotate_left
          ·simp only [Act.put, List.setIfInBounds_toArray, List.set_cons_zero, List.set_cons_succ, i64_w, i32_w]
           rfl
          refine pure_ (i := 3) (N := some 39) (v := ?_) (a' := ?_) #[false, true, true, true, false, false, false, false, false] rfl rfl (any_of HT_.out (by kernel_rfl)) (fun _ _ _ h => h) (Or.inl ⟨by rfl, ?_⟩) ?_ ?_
          rotate_left
          ·intro w'
           go_simp
           with_reducible rfl
          rotate_left
          ·simp only [Act.put, List.setIfInBounds_toArray, List.set_cons_zero, List.set_cons_succ, i64_w, i32_w]
           rfl
          refine pure_ (i := 4) (N := some 40) (v := ?_) (a' := ?_) #[false, true, true, true, true, false, false, false, false] rfl rfl (any_of HT_.out (by kernel_rfl)) (fun _ _ _ h => h) (Or.inl ⟨by rfl, ?_⟩) ?_ ?_
          rotate_left
          ·intro w'
           go_simp
           with_reducible rfl
          rotate_left
          ·simp only [Act.put, List.setIfInBounds_toArray, List.set_cons_zero, List.set_cons_succ, i64_w, i32_w]
           rfl
          refine take_ (i := 0) (N := some 36) (v := ?_) (a' := ?_) #[true, true, true, true, true, false, false, false, false] rfl rfl (take_ofW HT_.out HW_.out (by kernel_rfl)) (fun _ _ _ h => h) (Or.inl ⟨by rfl, ?_⟩) hHeld ?_ ?_
          rotate_left
          ·rintro w' ⟨s0, s1, s2, s3, s4, s5⟩
           go_simp
           with_reducible rfl
          rotate_left
          ·simp only [Act.put, List.setIfInBounds_toArray, List.set_cons_zero, List.set_cons_succ, i64_w, i32_w]
           rfl
          refine take_ (i := 5) (N := some 41) (v := ?_) (a' := ?_) #[true, true, true, true, true, true, false, false, false] rfl rfl (take_ofW HT_.out HW_.out (by kernel_rfl)) (fun _ _ _ h => h) (Or.inl ⟨by rfl, ?_⟩) hHeld ?_ ?_
          rotate_left
          ·rintro w' ⟨s0, s1, s2, s3, s4, s5⟩
           go_simp
           with_reducible rfl
          rotate_left
          ·simp only [Act.put, List.setIfInBounds_toArray, List.set_cons_zero, List.set_cons_succ, i64_w, i32_w]
           rfl
          refine one_ (i := 6) (N := some 42) #[true, true, true, true, true, true, true, false, false] rfl rfl (one_of HT_.out (by kernel_rfl)) (by decide) (fun K hK => ?_)
          refine goes_ Try.func15 (by kernel_rfl) rfl #[.agg #[.int .i64 a0_0, .int .i64 a0_1, .int .i64 a0_2], .int .i64 ((rd_T37 l1 x9_2).f1)] (by rfl) rfl rfl (by (try simp only [List.map_toArray, List.map_cons, List.map_nil]); first | done | rfl | (simp only [List.length_drop, List.length_take]; rfl)) ?_
          with_reducible refine (window_Spans.calls k2 a0_0 a0_1 a0_2 ((rd_T37 l1 x9_2).f1) t421 _ A19.out).mono ?_
          rintro e w23 ⟨v422, rfl, ho0, hb⟩
          refine ⟨_, rfl, ?_⟩
          have n0_ := Aside0.mk (Kd.R_below (by (with_reducible repeat (first | apply Kd.R_alloc | apply Kd.R_drewN | apply Kd.R_drew)); exact HO_5.out) hb)
          have n1_ := Aside0.mk (Kd.R_below (by (with_reducible repeat (first | apply Kd.R_alloc | apply Kd.R_drewN | apply Kd.R_drew)); exact HO_6.out) hb)
          have n2_ := Aside0.mk (Kd.R_lower ho0 (below_size (by repeat (first | (with_reducible first | exact HB.out | apply below_alloc | apply pw_below_drewN | apply below_drew1 | refine below_set ?_ GE415.out) | exact HB.out))))
          have n3_ := Aside0.mk (blk_below (g := gb415) (o := .cells #[.int .i64 a0_0, .int .i64 a0_1, .int .i64 a0_2] 23 (0, 0)) (by (with_reducible repeat (first | refine blk_drewN ?_ _ | refine blk_drew ?_ | refine blk_alloc ?_ _)); exact BK415.out) hb)
          have n4_ := Aside0.mk (below_step (by repeat (first | (with_reducible first | exact HB.out | apply below_alloc | apply pw_below_drewN | apply below_drew1 | refine below_set ?_ GE415.out) | exact HB.out)) hb)
          clear HO_5
          clear HO_6
          clear BK415
          clear HB
          have HO_5 := n0_
          have HO_6 := n1_
          have HO423 := n2_
          have BK415 := n3_
          have HB := n4_
          clear n0_ n1_ n2_ n3_ n4_
          (try clear hb)
          (try clear hb2)
          (try clear hk)
          (try clear hi)
          (try clear ho0)
          obtain ⟨Ao24, co24, eo24⟩ := Kd.R_slice HO423.out
          (first | subst eo24 | (injection eo24 with f1_ f2_ f3_; have f4_ := f1_.symm; have f5_ := f3_.symm; clear f1_ f2_ f3_; subst f4_; subst f5_))
          refine hK.out _ _ ⟨(blk_cell BK415.out 0).trans rfl, (blk_cell BK415.out 1).trans rfl, (blk_cell BK415.out 2).trans rfl, ((HB.out.cell (World.block_lt_of_cell? w _ hw420_0)).trans hw420_0), ((HB.out.cell (World.block_lt_of_cell? w _ hw420_1)).trans hw420_1), ((HB.out.cell (World.block_lt_of_cell? w _ hw420_2)).trans hw420_2)⟩ (fun hHeld => ?_)
          clear hK K
          refine norm_ (a' := ?_) ?_ ?_
          rotate_left
          ·show Act.put _ (some 42) _ = _
           simp only [Act.put, List.setIfInBounds_toArray, List.set_cons_zero, List.set_cons_succ, i64_w, i32_w]
           rfl
          refine pure_ (i := 7) (N := some 43) (v := ?_) (a' := ?_) #[true, true, true, true, true, true, true, true, false] rfl rfl (any_of HT_.out (by kernel_rfl)) (fun _ _ _ h => h) (Or.inl ⟨by rfl, ?_⟩) ?_ ?_
          rotate_left
          ·intro w'
           go_simp
           with_reducible rfl
          rotate_left
          ·simp only [Act.put, List.setIfInBounds_toArray, List.set_cons_zero, List.set_cons_succ, i64_w, i32_w]
           rfl
          refine pure_ (i := 8) (N := some 10) (v := ?_) (a' := ?_) #[true, true, true, true, true, true, true, true, true] rfl rfl (any_of HT_.out (by kernel_rfl)) (fun _ _ _ h => h) (Or.inl ⟨by rfl, ?_⟩) ?_ ?_
          rotate_left
          ·intro w'
           go_simp
           with_reducible rfl
          rotate_left
          ·simp only [Act.put, List.setIfInBounds_toArray, List.set_cons_zero, List.set_cons_succ, i64_w, i32_w]
           rfl
          refine done_ (done_of HT_.out (by kernel_rfl)) ?_
          try go_wp2
          have n0_ := Aside0.mk (Kd.R_drew HO_5.out)
          have n1_ := Aside0.mk (Kd.R_drew HO_6.out)
          have n2_ := Aside0.mk (Kd.R_drew HO423.out)
          have n3_ := Aside0.mk (blk_drew BK415.out)
          have n4_ := Aside0.mk (below_drew1 HB.out)
          clear HO_5
          clear HO_6
          clear HO423
          clear BK415
          clear HB
          have HO_5 := n0_
          have HO_6 := n1_
          have HO423 := n2_
          have BK415 := n3_
          have HB := n4_
          clear n0_ n1_ n2_ n3_ n4_
          have p424 : 0 ≤ (x9_2 : Int) := of_decide_eq_true (by first | (with_reducible assumption) | assumption)
          have q424 : x9_2 < (l1.length : Int) := of_decide_eq_true (by first | (with_reducible assumption) | assumption)
          obtain ⟨ad424, e424, hx424_0, hx424_1, hx424_2⟩ := at_T37 HR1.out x9_2 p424 q424
          have hw424_2 := hx424_2
          have hw424_1 := hx424_1
          have hw424_0 := hx424_0
          obtain rfl : ad418 = ad424 := (by injection e424)
          replace hx424_0 := (HB.out.cell (World.block_lt_of_cell? w _ hx424_0)).trans hx424_0
          replace hx424_1 := (HB.out.cell (World.block_lt_of_cell? w _ hx424_1)).trans hx424_1
          replace hx424_2 := (HB.out.cell (World.block_lt_of_cell? w _ hx424_2)).trans hx424_2
          replace p424 := eq_true p424
          replace q424 := eq_true q424
          refine start_ (n := 14) (S := fun w' => w'.cell? (ad418.add ((x9_2).toNat * 3)) = some (.int .i64 ((rd_T37 l1 x9_2).f0)) ∧ w'.cell? ⟨(ad418.add ((x9_2).toNat * 3)).block, (ad418.add ((x9_2).toNat * 3)).off + 1, none⟩ = some (.int .i64 ((rd_T37 l1 x9_2).f1)) ∧ w'.cell? ⟨(ad418.add ((x9_2).toNat * 3)).block, (ad418.add ((x9_2).toNat * 3)).off + 2, none⟩ = some (.int .i64 ((rd_T37 l1 x9_2).f2))) (ds := []) #[false, false, false, false, false, false, false, false, false, false, false, false, false, false] (by kernel_rfl) rfl rfl ⟨((HB.out.cell (World.block_lt_of_cell? w _ hw424_0)).trans hw424_0), ((HB.out.cell (World.block_lt_of_cell? w _ hw424_1)).trans hw424_1), ((HB.out.cell (World.block_lt_of_cell? w _ hw424_2)).trans hw424_2)⟩ (fun hHeld => ?_); refine with_tabW leatlaw11_WindowCounts.tab13 leatlaw11_WindowCounts.bits13 (fun HT_ HW_ => ?_)
          generalize w23.drew = w25 at HO_5 HO_6 HO423 BK415 HB hx424_0 hx424_1 hx424_2 hHeld ⊢
          refine pure_ (i := 0) (N := some 44) (v := ?_) (a' := ?_) #[true, false, false, false, false, false, false, false, false, false, false, false, false, false] rfl rfl (any_of HT_.out (by kernel_rfl)) (fun _ _ _ h => h) (Or.inl ⟨by rfl, ?_⟩) ?_ ?_
          rotate_left
          ·intro w'
           go_simp
           with_reducible rfl
          rotate_left
          ·simp only [Act.put, List.setIfInBounds_toArray, List.set_cons_zero, List.set_cons_succ, i64_w, i32_w]
           rfl
          refine pure_ (i := 1) (N := some 45) (v := ?_) (a' := ?_) #[true, true, false, false, false, false, false, false, false, false, false, false, false, false] rfl rfl (any_of HT_.out (by kernel_rfl)) (fun _ _ _ h => h) (Or.inl ⟨by rfl, ?_⟩) ?_ ?_
          rotate_left
          ·intro w'
           go_simp
           with_reducible rfl
          rotate_left
          ·simp only [Act.put, List.setIfInBounds_toArray, List.set_cons_zero, List.set_cons_succ, i64_w, i32_w]
           rfl
          refine pure_ (i := 2) (N := some 46) (v := ?_) (a' := ?_) #[true, true, true, false, false, false, false, false, false, false, false, false, false, false] rfl rfl (any_of HT_.out (by kernel_rfl)) (fun _ _ _ h => h) (Or.inl ⟨by rfl, ?_⟩) ?_ ?_
          rotate_left
          ·intro w'
           go_simp
           with_reducible rfl
          rotate_left
          ·simp only [Act.put, List.setIfInBounds_toArray, List.set_cons_zero, List.set_cons_succ, i64_w, i32_w]
           rfl
          refine pure_ (i := 3) (N := some 47) (v := ?_) (a' := ?_) #[true, true, true, true, false, false, false, false, false, false, false, false, false, false] rfl rfl (any_of HT_.out (by kernel_rfl)) (fun _ _ _ h => h) (Or.inl ⟨by rfl, ?_⟩) ?_ ?_
          rotate_left
          ·intro w'
           go_simp
           with_reducible rfl
          rotate_left
          ·simp only [Act.put, List.setIfInBounds_toArray, List.set_cons_zero, List.set_cons_succ, i64_w, i32_w]
           rfl
          refine pure_ (i := 4) (N := some 48) (v := ?_) (a' := ?_) #[true, true, true, true, true, false, false, false, false, false, false, false, false, false] rfl rfl (any_of HT_.out (by kernel_rfl)) (fun _ _ _ h => h) (Or.inl ⟨by rfl, ?_⟩) ?_ ?_
          rotate_left
          ·intro w'
           go_simp
           with_reducible rfl
          rotate_left
          ·simp only [Act.put, List.setIfInBounds_toArray, List.set_cons_zero, List.set_cons_succ, i64_w, i32_w]
           rfl
          refine pure_ (i := 5) (N := some 49) (v := ?_) (a' := ?_) #[true, true, true, true, true, true, false, false, false, false, false, false, false, false] rfl rfl (any_of HT_.out (by kernel_rfl)) (fun _ _ _ h => h) (Or.inl ⟨by rfl, ?_⟩) ?_ ?_
          rotate_left
          ·intro w'
           go_simp
           with_reducible rfl
          rotate_left
          ·simp only [Act.put, List.setIfInBounds_toArray, List.set_cons_zero, List.set_cons_succ, i64_w, i32_w]
           rfl
          refine pure_ (i := 6) (N := some 50) (v := ?_) (a' := ?_) #[true, true, true, true, true, true, true, false, false, false, false, false, false, false] rfl rfl (any_of HT_.out (by kernel_rfl)) (fun _ _ _ h => h) (Or.inl ⟨by rfl, ?_⟩) ?_ ?_
          rotate_left
          ·intro w'
           go_simp
           with_reducible rfl
          rotate_left
          ·simp only [Act.put, List.setIfInBounds_toArray, List.set_cons_zero, List.set_cons_succ, i64_w, i32_w]
           rfl
          refine pure_ (i := 7) (N := some 51) (v := ?_) (a' := ?_) #[true, true, true, true, true, true, true, true, false, false, false, false, false, false] rfl rfl (any_of HT_.out (by kernel_rfl)) (fun _ _ _ h => h) (Or.inl ⟨by rfl, ?_⟩) ?_ ?_
          rotate_left
          ·intro w'
           go_simp
           with_reducible rfl
          rotate_left
          ·simp only [Act.put, List.setIfInBounds_toArray, List.set_cons_zero, List.set_cons_succ, i64_w, i32_w]
           rfl
          refine pure_ (i := 8) (N := some 52) (v := ?_) (a' := ?_) #[true, true, true, true, true, true, true, true, true, false, false, false, false, false] rfl rfl (any_of HT_.out (by kernel_rfl)) (fun _ _ _ h => h) (Or.inl ⟨by rfl, ?_⟩) ?_ ?_
          rotate_left
          ·intro w'
           go_simp
           with_reducible rfl
          rotate_left
          ·simp only [Act.put, List.setIfInBounds_toArray, List.set_cons_zero, List.set_cons_succ, i64_w, i32_w]
           rfl
          refine pure_ (i := 12) (N := some 7) (v := ?_) (a' := ?_) #[true, true, true, true, true, true, true, true, true, false, false, false, true, false] rfl rfl (any_of HT_.out (by kernel_rfl)) (fun _ _ _ h => h) (Or.inl ⟨by rfl, ?_⟩) ?_ ?_
          rotate_left
          ·intro w'
           go_simp
           with_reducible rfl
          rotate_left
          ·simp only [Act.put, List.setIfInBounds_toArray, List.set_cons_zero, List.set_cons_succ, i64_w, i32_w]
           rfl
          refine take_ (i := 9) (N := some 53) (v := ?_) (a' := ?_) #[true, true, true, true, true, true, true, true, true, true, false, false, true, false] rfl rfl (take_ofW HT_.out HW_.out (by kernel_rfl)) (fun _ _ _ h => h) (Or.inl ⟨by rfl, ?_⟩) hHeld ?_ ?_
          rotate_left
          ·rintro w' ⟨s0, s1, s2⟩
           go_simp
           with_reducible rfl
          rotate_left
          ·simp only [Act.put, List.setIfInBounds_toArray, List.set_cons_zero, List.set_cons_succ, i64_w, i32_w]
           rfl
          refine pure_ (i := 10) (N := some 54) (v := ?_) (a' := ?_) #[true, true, true, true, true, true, true, true, true, true, true, false, true, false] rfl rfl (any_of HT_.out (by kernel_rfl)) (fun _ _ _ h => h) (Or.inl ⟨by rfl, ?_⟩) ?_ ?_
          rotate_left
          ·intro w'
           go_simp
           with_reducible rfl
          rotate_left
          ·simp only [Act.put, List.setIfInBounds_toArray, List.set_cons_zero, List.set_cons_succ, i64_w, i32_w]
           rfl
          refine pure_ (i := 11) (N := some 55) (v := ?_) (a' := ?_) #[true, true, true, true, true, true, true, true, true, true, true, true, true, false] rfl rfl (any_of HT_.out (by kernel_rfl)) (fun _ _ _ h => h) (Or.inl ⟨by rfl, ?_⟩) ?_ ?_
          rotate_left
          ·intro w'
           go_simp
           with_reducible rfl
          rotate_left
          ·simp only [Act.put, List.setIfInBounds_toArray, List.set_cons_zero, List.set_cons_succ, i64_w, i32_w]
           rfl
          refine pure_ (i := 13) (N := some 8) (v := ?_) (a' := ?_) #[true, true, true, true, true, true, true, true, true, true, true, true, true, true] rfl rfl (any_of HT_.out (by kernel_rfl)) (fun _ _ _ h => h) (Or.inl ⟨by rfl, ?_⟩) ?_ ?_
          rotate_left
          ·intro w'
           go_simp
           with_reducible rfl
          rotate_left
          ·simp only [Act.put, List.setIfInBounds_toArray, List.set_cons_zero, List.set_cons_succ, i64_w, i32_w]
           rfl
          refine done_ (done_of HT_.out (by kernel_rfl)) ?_
          try go_wp2
          have n0_ := Aside0.mk (Kd.R_drew HO_5.out)
          have n1_ := Aside0.mk (Kd.R_drew HO_6.out)
          have n2_ := Aside0.mk (Kd.R_drew HO423.out)
          have n3_ := Aside0.mk (blk_drew BK415.out)
          have n4_ := Aside0.mk (below_drew1 HB.out)
          clear HO_5
          clear HO_6
          clear HO423
          clear BK415
          clear HB
          have HO_5 := n0_
          have HO_6 := n1_
          have HO423 := n2_
          have BK415 := n3_
          have HB := n4_
          clear n0_ n1_ n2_ n3_ n4_
          have p425 : 0 ≤ (x9_2 : Int) := of_decide_eq_true (by first | (with_reducible assumption) | assumption)
          have q425 : x9_2 < (l1.length : Int) := of_decide_eq_true (by first | (with_reducible assumption) | assumption)
          obtain ⟨ad425, e425, hx425_0, hx425_1, hx425_2⟩ := at_T37 HR1.out x9_2 p425 q425
          have hw425_2 := hx425_2
          have hw425_1 := hx425_1
          have hw425_0 := hx425_0
          obtain rfl : ad418 = ad425 := (by injection e425)
          replace hx425_0 := (HB.out.cell (World.block_lt_of_cell? w _ hx425_0)).trans hx425_0
          replace hx425_1 := (HB.out.cell (World.block_lt_of_cell? w _ hx425_1)).trans hx425_1
          replace hx425_2 := (HB.out.cell (World.block_lt_of_cell? w _ hx425_2)).trans hx425_2
          replace p425 := eq_true p425
          replace q425 := eq_true q425
          have p429 : 0 ≤ (x9_2 : Int) := of_decide_eq_true (by first | (with_reducible assumption) | assumption)
          have q429 : x9_2 < (l1.length : Int) := of_decide_eq_true (by first | (with_reducible assumption) | assumption)
          obtain ⟨ad429, e429, hx429_0, hx429_1, hx429_2⟩ := at_T37 HR1.out x9_2 p429 q429
          have hw429_2 := hx429_2
          have hw429_1 := hx429_1
          have hw429_0 := hx429_0
          obtain rfl : ad418 = ad429 := (by injection e429)
          replace hx429_0 := (HB.out.cell (World.block_lt_of_cell? w _ hx429_0)).trans hx429_0
          replace hx429_1 := (HB.out.cell (World.block_lt_of_cell? w _ hx429_1)).trans hx429_1
          replace hx429_2 := (HB.out.cell (World.block_lt_of_cell? w _ hx429_2)).trans hx429_2
          replace p429 := eq_true p429
          replace q429 := eq_true q429
          obtain ⟨Ao27, co27, eo27⟩ := Kd.R_slice HO_5.out
          (first | subst eo27 | (injection eo27 with f1_ f2_ f3_; have f4_ := f1_.symm; have f5_ := f3_.symm; clear f1_ f2_ f3_; subst f4_; subst f5_))
          refine start_ (n := 16) (S := fun w' => w'.cell? ⟨gb415, 0, none⟩ = some (.int .i64 a0_0) ∧ w'.cell? ⟨gb415, 1, none⟩ = some (.int .i64 a0_1) ∧ w'.cell? ⟨gb415, 2, none⟩ = some (.int .i64 a0_2) ∧ w'.cell? (ad418.add ((x9_2).toNat * 3)) = some (.int .i64 ((rd_T37 l1 x9_2).f0)) ∧ w'.cell? ⟨(ad418.add ((x9_2).toNat * 3)).block, (ad418.add ((x9_2).toNat * 3)).off + 1, none⟩ = some (.int .i64 ((rd_T37 l1 x9_2).f1)) ∧ w'.cell? ⟨(ad418.add ((x9_2).toNat * 3)).block, (ad418.add ((x9_2).toNat * 3)).off + 2, none⟩ = some (.int .i64 ((rd_T37 l1 x9_2).f2)) ∧ w'.cell? (ad418.add ((x9_2).toNat * 3)) = some (.int .i64 ((rd_T37 l1 x9_2).f0)) ∧ w'.cell? ⟨(ad418.add ((x9_2).toNat * 3)).block, (ad418.add ((x9_2).toNat * 3)).off + 1, none⟩ = some (.int .i64 ((rd_T37 l1 x9_2).f1)) ∧ w'.cell? ⟨(ad418.add ((x9_2).toNat * 3)).block, (ad418.add ((x9_2).toNat * 3)).off + 2, none⟩ = some (.int .i64 ((rd_T37 l1 x9_2).f2))) (ds := []) #[false, false, false, false, false, false, false, false, false, false, false, false, false, false, false, false] (by kernel_rfl) rfl rfl ⟨(blk_cell BK415.out 0).trans rfl, (blk_cell BK415.out 1).trans rfl, (blk_cell BK415.out 2).trans rfl, ((HB.out.cell (World.block_lt_of_cell? w _ hw425_0)).trans hw425_0), ((HB.out.cell (World.block_lt_of_cell? w _ hw425_1)).trans hw425_1), ((HB.out.cell (World.block_lt_of_cell? w _ hw425_2)).trans hw425_2), ((HB.out.cell (World.block_lt_of_cell? w _ hw429_0)).trans hw429_0), ((HB.out.cell (World.block_lt_of_cell? w _ hw429_1)).trans hw429_1), ((HB.out.cell (World.block_lt_of_cell? w _ hw429_2)).trans hw429_2)⟩ (fun hHeld => ?_); refine with_tabW leatlaw11_WindowCounts.tab14 leatlaw11_WindowCounts.bits14 (fun HT_ HW_ => ?_)
          generalize w25.drew = w26 at HO_5 HO_6 HO423 BK415 HB hx425_0 hx425_1 hx425_2 hx429_0 hx429_1 hx429_2 hHeld ⊢
          refine pure_ (i := 1) (N := some 57) (v := ?_) (a' := ?_) #[false, true, false, false, false, false, false, false, false, false, false, false, false, false, false, false] rfl rfl (any_of HT_.out (by kernel_rfl)) (fun _ _ _ h => h) (Or.inl ⟨by rfl, ?_⟩) ?_ ?_
          rotate_left
          ·intro w'
           go_simp
           with_reducible rfl
          rotate_left
          ·simp only [Act.put, List.setIfInBounds_toArray, List.set_cons_zero, List.set_cons_succ, i64_w, i32_w]
           rfl
          refine pure_ (i := 2) (N := some 58) (v := ?_) (a' := ?_) #[false, true, true, false, false, false, false, false, false, false, false, false, false, false, false, false] rfl rfl (any_of HT_.out (by kernel_rfl)) (fun _ _ _ h => h) (Or.inl ⟨by rfl, ?_⟩) ?_ ?_
          rotate_left
          ·intro w'
           go_simp
           with_reducible rfl
          rotate_left
          ·simp only [Act.put, List.setIfInBounds_toArray, List.set_cons_zero, List.set_cons_succ, i64_w, i32_w]
           rfl
          refine pure_ (i := 3) (N := some 59) (v := ?_) (a' := ?_) #[false, true, true, true, false, false, false, false, false, false, false, false, false, false, false, false] rfl rfl (any_of HT_.out (by kernel_rfl)) (fun _ _ _ h => h) (Or.inl ⟨by rfl, ?_⟩) ?_ ?_
          rotate_left
          ·intro w'
           go_simp
           with_reducible rfl
          rotate_left
          ·simp only [Act.put, List.setIfInBounds_toArray, List.set_cons_zero, List.set_cons_succ, i64_w, i32_w]
           rfl
          refine pure_ (i := 4) (N := some 60) (v := ?_) (a' := ?_) #[false, true, true, true, true, false, false, false, false, false, false, false, false, false, false, false] rfl rfl (any_of HT_.out (by kernel_rfl)) (fun _ _ _ h => h) (Or.inl ⟨by rfl, ?_⟩) ?_ ?_
          rotate_left
          ·intro w'
           go_simp
           with_reducible rfl
          rotate_left
          ·simp only [Act.put, List.setIfInBounds_toArray, List.set_cons_zero, List.set_cons_succ, i64_w, i32_w]
           rfl
          refine pure_ (i := 8) (N := some 64) (v := ?_) (a' := ?_) #[false, true, true, true, true, false, false, false, true, false, false, false, false, false, false, false] rfl rfl (any_of HT_.out (by kernel_rfl)) (fun _ _ _ h => h) (Or.inl ⟨by rfl, ?_⟩) ?_ ?_
          rotate_left
          ·intro w'
           go_simp
           with_reducible rfl
          rotate_left
          ·simp only [Act.put, List.setIfInBounds_toArray, List.set_cons_zero, List.set_cons_succ, i64_w, i32_w]
           rfl
          refine pure_ (i := 9) (N := some 65) (v := ?_) (a' := ?_) #[false, true, true, true, true, false, false, false, true, true, false, false, false, false, false, false] rfl rfl (any_of HT_.out (by kernel_rfl)) (fun _ _ _ h => h) (Or.inl ⟨by rfl, ?_⟩) ?_ ?_
          rotate_left
          ·intro w'
           go_simp
           with_reducible rfl
          rotate_left
          ·simp only [Act.put, List.setIfInBounds_toArray, List.set_cons_zero, List.set_cons_succ, i64_w, i32_w]
           rfl
          refine pure_ (i := 10) (N := some 66) (v := ?_) (a' := ?_) #[false, true, true, true, true, false, false, false, true, true, true, false, false, false, false, false] rfl rfl (any_of HT_.out (by kernel_rfl)) (fun _ _ _ h => h) (Or.inl ⟨by rfl, ?_⟩) ?_ ?_
          rotate_left
          ·intro w'
           go_simp
           with_reducible rfl
          rotate_left
          ·simp only [Act.put, List.setIfInBounds_toArray, List.set_cons_zero, List.set_cons_succ, i64_w, i32_w]
           rfl
          refine pure_ (i := 11) (N := some 67) (v := ?_) (a' := ?_) #[false, true, true, true, true, false, false, false, true, true, true, true, false, false, false, false] rfl rfl (any_of HT_.out (by kernel_rfl)) (fun _ _ _ h => h) (Or.inl ⟨by rfl, ?_⟩) ?_ ?_
          rotate_left
          ·intro w'
           go_simp
           with_reducible rfl
          rotate_left
          ·simp only [Act.put, List.setIfInBounds_toArray, List.set_cons_zero, List.set_cons_succ, i64_w, i32_w]
           rfl
          refine take_ (i := 0) (N := some 56) (v := ?_) (a' := ?_) #[true, true, true, true, true, false, false, false, true, true, true, true, false, false, false, false] rfl rfl (take_ofW HT_.out HW_.out (by kernel_rfl)) (fun _ _ _ h => h) (Or.inl ⟨by rfl, ?_⟩) hHeld ?_ ?_
          rotate_left
          ·rintro w' ⟨s0, s1, s2, s3, s4, s5, s6, s7, s8⟩
           go_simp
           with_reducible rfl
          rotate_left
          ·simp only [Act.put, List.setIfInBounds_toArray, List.set_cons_zero, List.set_cons_succ, i64_w, i32_w]
           rfl
          refine take_ (i := 5) (N := some 61) (v := ?_) (a' := ?_) #[true, true, true, true, true, true, false, false, true, true, true, true, false, false, false, false] rfl rfl (take_ofW HT_.out HW_.out (by kernel_rfl)) (fun _ _ _ h => h) (Or.inl ⟨by rfl, ?_⟩) hHeld ?_ ?_
          rotate_left
          ·rintro w' ⟨s0, s1, s2, s3, s4, s5, s6, s7, s8⟩
           go_simp
           with_reducible rfl
          rotate_left
          ·simp only [Act.put, List.setIfInBounds_toArray, List.set_cons_zero, List.set_cons_succ, i64_w, i32_w]
           rfl
          refine take_ (i := 7) (N := some 63) (v := ?_) (a' := ?_) #[true, true, true, true, true, true, false, true, true, true, true, true, false, false, false, false] rfl rfl (take_ofW HT_.out HW_.out (by kernel_rfl)) (fun _ _ _ h => h) (Or.inl ⟨by rfl, ?_⟩) hHeld ?_ ?_
          rotate_left
          ·rintro w' ⟨s0, s1, s2, s3, s4, s5, s6, s7, s8⟩
           go_simp
           with_reducible rfl
          rotate_left
          ·simp only [Act.put, List.setIfInBounds_toArray, List.set_cons_zero, List.set_cons_succ, i64_w, i32_w]
           rfl
          refine take_ (i := 12) (N := some 68) (v := ?_) (a' := ?_) #[true, true, true, true, true, true, false, true, true, true, true, true, true, false, false, false] rfl rfl (take_ofW HT_.out HW_.out (by kernel_rfl)) (fun _ _ _ h => h) (Or.inl ⟨by rfl, ?_⟩) hHeld ?_ ?_
          rotate_left
          ·rintro w' ⟨s0, s1, s2, s3, s4, s5, s6, s7, s8⟩
           go_simp
           with_reducible rfl
          rotate_left
          ·simp only [Act.put, List.setIfInBounds_toArray, List.set_cons_zero, List.set_cons_succ, i64_w, i32_w]
           rfl
          refine one_ (i := 6) (N := some 62) #[true, true, true, true, true, true, true, true, true, true, true, true, true, false, false, false] rfl rfl (one_of HT_.out (by kernel_rfl)) (by decide) (fun K hK => ?_)
          refine goes_ Try.func18 (by kernel_rfl) rfl #[.agg #[.int .i64 a0_0, .int .i64 a0_1, .int .i64 a0_2], .int .i64 2, .slice Ao27 x5_2.length co27, .agg #[.int .i64 ((rd_T37 l1 x9_2).f0), .int .i64 ((rd_T37 l1 x9_2).f1), .int .i64 ((rd_T37 l1 x9_2).f2)]] (by rfl) rfl rfl (by (try simp only [List.map_toArray, List.map_cons, List.map_nil]); first | done | rfl | (simp only [List.length_drop, List.length_take]; rfl)) ?_
          with_reducible refine (window_Put.calls k2 a0_0 a0_1 a0_2 2 _ _ x5_2 ((rd_T37 l1 x9_2).f0) ((rd_T37 l1 x9_2).f1) ((rd_T37 l1 x9_2).f2) t426 _ ?side1 ?side2 A20.out).mono ?_
          (case side1 => repeat (first | exact (Kd.R_reads' HO_5.out).2.2 | (with_reducible refine Kd.C_alloc ?_ _) | (with_reducible refine Kd.C_drewN ?_ _) | (with_reducible refine Kd.C_drew ?_)))
          (case side2 => exact (Kd.R_reads' HO_5.out).2.1)
          rintro e w28 ⟨v427, rfl, ho0, hb⟩
          refine ⟨_, rfl, ?_⟩
          have n0_ := Aside0.mk (Kd.R_elder' (by (with_reducible repeat (first | apply Kd.R_alloc | apply Kd.R_drewN | apply Kd.R_drew)); exact HO_5.out) (Kd.R_base ho0) hb)
          have n1_ := Aside0.mk (Kd.R_elder' (by (with_reducible repeat (first | apply Kd.R_alloc | apply Kd.R_drewN | apply Kd.R_drew)); exact HO_6.out) (Kd.R_base ho0) hb)
          have n2_ := Aside0.mk (Kd.R_below (by (with_reducible repeat (first | apply Kd.R_alloc | apply Kd.R_drewN | apply Kd.R_drew)); exact HO423.out) hb)
          have n3_ := Aside0.mk (Kd.R_lower (Kd.R_new' (Kd.R_new' ho0 (Kd.R_lt (by (with_reducible repeat (first | apply Kd.R_alloc | apply Kd.R_drewN | apply Kd.R_drew)); exact HO_5.out))) (Kd.R_lt (by (with_reducible repeat (first | apply Kd.R_alloc | apply Kd.R_drewN | apply Kd.R_drew)); exact HO_6.out))) (below_size (by repeat (first | (with_reducible first | exact HB.out | apply below_alloc | apply pw_below_drewN | apply below_drew1 | refine below_set ?_ GE415.out) | exact HB.out))))
          have n4_ := Aside0.mk (blk_below (g := gb415) (o := .cells #[.int .i64 a0_0, .int .i64 a0_1, .int .i64 a0_2] 23 (0, 0)) (by (with_reducible repeat (first | refine blk_drewN ?_ _ | refine blk_drew ?_ | refine blk_alloc ?_ _)); exact BK415.out) hb)
          have n5_ := Aside0.mk (below_step (by repeat (first | (with_reducible first | exact HB.out | apply below_alloc | apply pw_below_drewN | apply below_drew1 | refine below_set ?_ GE415.out) | exact HB.out)) hb)
          clear HO_5
          clear HO_6
          clear HO423
          clear BK415
          clear HB
          have HO_5 := n0_
          have HO_6 := n1_
          have HO423 := n2_
          have HO428 := n3_
          have BK415 := n4_
          have HB := n5_
          clear n0_ n1_ n2_ n3_ n4_ n5_
          (try clear hb)
          (try clear hb2)
          (try clear hk)
          (try clear hi)
          (try clear ho0)
          obtain ⟨Ao29, co29, eo29⟩ := Kd.R_slice HO_6.out
          (first | subst eo29 | (injection eo29 with f1_ f2_ f3_; have f4_ := f1_.symm; have f5_ := f3_.symm; clear f1_ f2_ f3_; subst f4_; subst f5_))
          refine hK.out _ _ ⟨(blk_cell BK415.out 0).trans rfl, (blk_cell BK415.out 1).trans rfl, (blk_cell BK415.out 2).trans rfl, ((HB.out.cell (World.block_lt_of_cell? w _ hw425_0)).trans hw425_0), ((HB.out.cell (World.block_lt_of_cell? w _ hw425_1)).trans hw425_1), ((HB.out.cell (World.block_lt_of_cell? w _ hw425_2)).trans hw425_2), ((HB.out.cell (World.block_lt_of_cell? w _ hw429_0)).trans hw429_0), ((HB.out.cell (World.block_lt_of_cell? w _ hw429_1)).trans hw429_1), ((HB.out.cell (World.block_lt_of_cell? w _ hw429_2)).trans hw429_2)⟩ (fun hHeld => ?_)
          clear hK K
          refine norm_ (a' := ?_) ?_ ?_
          rotate_left
          ·show Act.put _ (some 62) _ = _
           simp only [Act.put, List.setIfInBounds_toArray, List.set_cons_zero, List.set_cons_succ, i64_w, i32_w]
           rfl
          refine one_ (i := 13) (N := some 69) #[true, true, true, true, true, true, true, true, true, true, true, true, true, true, false, false] rfl rfl (one_of HT_.out (by kernel_rfl)) (by decide) (fun K hK => ?_)
          refine goes_ Try.func18 (by kernel_rfl) rfl #[.agg #[.int .i64 a0_0, .int .i64 a0_1, .int .i64 a0_2], .int .i64 1, .slice Ao29 x6_2.length co29, .agg #[.int .i64 ((rd_T37 l1 x9_2).f0), .int .i64 ((rd_T37 l1 x9_2).f1), .int .i64 ((rd_T37 l1 x9_2).f2)]] (by rfl) rfl rfl (by (try simp only [List.map_toArray, List.map_cons, List.map_nil]); first | done | rfl | (simp only [List.length_drop, List.length_take]; rfl)) ?_
          with_reducible refine (window_Put.calls k2 a0_0 a0_1 a0_2 1 _ _ x6_2 ((rd_T37 l1 x9_2).f0) ((rd_T37 l1 x9_2).f1) ((rd_T37 l1 x9_2).f2) t430 _ ?side1 ?side2 A21.out).mono ?_
          (case side1 => repeat (first | exact (Kd.R_reads' HO_6.out).2.2 | (with_reducible refine Kd.C_alloc ?_ _) | (with_reducible refine Kd.C_drewN ?_ _) | (with_reducible refine Kd.C_drew ?_)))
          (case side2 => exact (Kd.R_reads' HO_6.out).2.1)
          rintro e w30 ⟨v431, rfl, ho0, hb⟩
          refine ⟨_, rfl, ?_⟩
          have n0_ := Aside0.mk (Kd.R_elder' (by (with_reducible repeat (first | apply Kd.R_alloc | apply Kd.R_drewN | apply Kd.R_drew)); exact HO_5.out) (Kd.R_base ho0) hb)
          have n1_ := Aside0.mk (Kd.R_elder' (by (with_reducible repeat (first | apply Kd.R_alloc | apply Kd.R_drewN | apply Kd.R_drew)); exact HO_6.out) (Kd.R_base ho0) hb)
          have n2_ := Aside0.mk (Kd.R_below (by (with_reducible repeat (first | apply Kd.R_alloc | apply Kd.R_drewN | apply Kd.R_drew)); exact HO423.out) hb)
          have n3_ := Aside0.mk (Kd.R_elder' (by (with_reducible repeat (first | apply Kd.R_alloc | apply Kd.R_drewN | apply Kd.R_drew)); exact HO428.out) (Kd.R_base ho0) hb)
          have n4_ := Aside0.mk (Kd.R_lower (Kd.R_new' (Kd.R_new' (Kd.R_new' ho0 (Kd.R_lt (by (with_reducible repeat (first | apply Kd.R_alloc | apply Kd.R_drewN | apply Kd.R_drew)); exact HO_5.out))) (Kd.R_lt (by (with_reducible repeat (first | apply Kd.R_alloc | apply Kd.R_drewN | apply Kd.R_drew)); exact HO_6.out))) (Kd.R_lt (by (with_reducible repeat (first | apply Kd.R_alloc | apply Kd.R_drewN | apply Kd.R_drew)); exact HO428.out))) (below_size (by repeat (first | (with_reducible first | exact HB.out | apply below_alloc | apply pw_below_drewN | apply below_drew1 | refine below_set ?_ GE415.out) | exact HB.out))))
          have n5_ := Aside0.mk (blk_below (g := gb415) (o := .cells #[.int .i64 a0_0, .int .i64 a0_1, .int .i64 a0_2] 23 (0, 0)) (by (with_reducible repeat (first | refine blk_drewN ?_ _ | refine blk_drew ?_ | refine blk_alloc ?_ _)); exact BK415.out) hb)
          have n6_ := Aside0.mk (below_step (by repeat (first | (with_reducible first | exact HB.out | apply below_alloc | apply pw_below_drewN | apply below_drew1 | refine below_set ?_ GE415.out) | exact HB.out)) hb)
          clear HO_5
          clear HO_6
          clear HO423
          clear HO428
          clear BK415
          clear HB
          have HO_5 := n0_
          have HO_6 := n1_
          have HO423 := n2_
          have HO428 := n3_
          have HO432 := n4_
          have BK415 := n5_
          have HB := n6_
          clear n0_ n1_ n2_ n3_ n4_ n5_ n6_
          (try clear hb)
          (try clear hb2)
          (try clear hk)
          (try clear hi)
          (try clear ho0)
          refine hK.out _ _ ⟨(blk_cell BK415.out 0).trans rfl, (blk_cell BK415.out 1).trans rfl, (blk_cell BK415.out 2).trans rfl, ((HB.out.cell (World.block_lt_of_cell? w _ hw425_0)).trans hw425_0), ((HB.out.cell (World.block_lt_of_cell? w _ hw425_1)).trans hw425_1), ((HB.out.cell (World.block_lt_of_cell? w _ hw425_2)).trans hw425_2), ((HB.out.cell (World.block_lt_of_cell? w _ hw429_0)).trans hw429_0), ((HB.out.cell (World.block_lt_of_cell? w _ hw429_1)).trans hw429_1), ((HB.out.cell (World.block_lt_of_cell? w _ hw429_2)).trans hw429_2)⟩ (fun hHeld => ?_)
          clear hK K
          refine norm_ (a' := ?_) ?_ ?_
          rotate_left
          ·show Act.put _ (some 69) _ = _
           simp only [Act.put, List.setIfInBounds_toArray, List.set_cons_zero, List.set_cons_succ, i64_w, i32_w]
           rfl
          refine pure_ (i := 14) (N := some 5) (v := ?_) (a' := ?_) #[true, true, true, true, true, true, true, true, true, true, true, true, true, true, true, false] rfl rfl (any_of HT_.out (by kernel_rfl)) (fun _ _ _ h => h) (Or.inl ⟨by rfl, ?_⟩) ?_ ?_
          rotate_left
          ·intro w'
           go_simp
           with_reducible rfl
          rotate_left
          ·simp only [Act.put, List.setIfInBounds_toArray, List.set_cons_zero, List.set_cons_succ, i64_w, i32_w]
           rfl
          refine pure_ (i := 15) (N := some 6) (v := ?_) (a' := ?_) #[true, true, true, true, true, true, true, true, true, true, true, true, true, true, true, true] rfl rfl (any_of HT_.out (by kernel_rfl)) (fun _ _ _ h => h) (Or.inl ⟨by rfl, ?_⟩) ?_ ?_
          rotate_left
          ·intro w'
           go_simp
           with_reducible rfl
          rotate_left
          ·simp only [Act.put, List.setIfInBounds_toArray, List.set_cons_zero, List.set_cons_succ, i64_w, i32_w]
           rfl
          refine done_ (done_of HT_.out (by kernel_rfl)) ?_
          try go_wp2
          go_roundg k2
          case measure => have := HJ4.out; have := HK2.out; omega
          case rel => exact ⟨(t426), (t430), (wrap64 (x7_2 + (t421.length : Int))), (wrap64 (x8_2 + (wrap64 ((t421.length : Int) * ((rd_T37 l1 x9_2).f2))))), (wrap64 (x9_2 + 1)), (by first | rfl | (simp; done) | (simp [*]; done)), (by first | rfl | (simp; done) | (simp [*]; done)), (by first | rfl | (simp; done) | (simp [*]; done)), H', ⟨by have := HJ4.out; have := HK2.out; omega⟩, ⟨by (with_reducible repeat (first | apply Kd.R_alloc | apply Kd.R_drewN | apply Kd.R_drew)); exact Kd.R_mono HO428.out (fun _ hk => hk.2)⟩, ⟨by (with_reducible repeat (first | apply Kd.R_alloc | apply Kd.R_drewN | apply Kd.R_drew)); exact Kd.R_mono HO432.out (fun _ hk => hk.2)⟩, ⟨by (with_reducible repeat (first | refine blk_drewN ?_ _ | refine blk_drew ?_ | refine blk_alloc ?_ _)); exact BK415.out⟩, ⟨by repeat (first | (with_reducible first | exact HB.out | apply below_alloc | apply pw_below_drewN | apply below_drew1 | refine below_set ?_ GE415.out) | exact HB.out)⟩⟩
         ·replace c18 := Bool.eq_false_iff.mpr c18
          subst c18
          have H1 : (some true) = some r := by rw [if_neg (show ¬ (false = true) by decide)] at H; exact H
          clear H
          have H := H1
          clear H1
          obtain rfl := Option.some.inj H
          have p418 : 0 ≤ (x9_2 : Int) := of_decide_eq_true (by first | (with_reducible assumption) | assumption)
          have q418 : x9_2 < (l1.length : Int) := of_decide_eq_true (by first | (with_reducible assumption) | assumption)
          obtain ⟨ad418, e418, hx418_0, hx418_1, hx418_2⟩ := at_T37 HR1.out x9_2 p418 q418
          cases e418
          replace hx418_0 := (HB.out.cell (World.block_lt_of_cell? w _ hx418_0)).trans hx418_0
          replace hx418_1 := (HB.out.cell (World.block_lt_of_cell? w _ hx418_1)).trans hx418_1
          replace hx418_2 := (HB.out.cell (World.block_lt_of_cell? w _ hx418_2)).trans hx418_2
          replace p418 := eq_true p418
          replace q418 := eq_true q418
          go_wp2_with (first | ((with_reducible refine gate_callee (f := 14) rfl ?_); refine goesL_ (some 34) rfl rfl Try.func14 (by kernel_rfl) rfl #[.int .i64 ((rd_T37 l1 x9_2).f1)] rfl (by (try simp only [List.map_toArray, List.map_cons, List.map_nil]); first | done | rfl | (simp only [List.length_drop, List.length_take]; rfl)) ?_; (with_reducible refine (leatlaw11_time.calls ((rd_T37 l1 x9_2).f1) false _ A17.out).mono ?_); rintro e w' ⟨rfl, ⟨nd, rfl⟩⟩; refine ⟨_, rfl, ?_⟩))
          go_ret
          exact ⟨by first | rfl | (simp [errW_none, errW_some] <;> rfl) | (simp [*, errW_none, errW_some] <;> rfl), by repeat (first | (with_reducible first | exact HB.out | apply below_alloc | apply pw_below_drewN | apply below_drew1 | refine below_set ?_ GE415.out) | exact HB.out)⟩
        ·rw [if_neg c16] at H
         exact absurd H (by simp)
       ·rw [if_neg c15] at H
        have c15b0 : decide (x9_2 < (l1.length : Int)) = false := decide_eq_false c15
        clear c15
        have H' := Aside0.mk H
        clear H
        go_wp2
        go_loopg [7, 11] k2 (fun kq v7 v11 w' => ∃ (x7_3 : Int) (x11_3 : Int), v7 = .int .i64 x7_3 ∧ v11 = .int .i64 x11_3 ∧ Aside0 (leatlaw11_WindowCounts.l1 kq x5_2 x6_2 x7_3 x8_2 x11_3 = some r) ∧ Aside0 (kq ≤ k2) ∧ Aside0 (Kd.R k46 46 w' w.heap.size (fun k_ => some k_ ≠ (u6 : Value).ownBlock) u5 x5_2) ∧ Aside0 (Kd.R k46 46 w' w.heap.size (fun k_ => some k_ ≠ (u5 : Value).ownBlock) u6 x6_2) ∧ Aside0 (w'.heap[gb415]? = some (.cells #[.int .i64 a0_0, .int .i64 a0_1, .int .i64 a0_2] 23 (0, 0))) ∧ Aside0 (Below w.heap.size w w'))
        case atStart => exact ⟨(x7_2), (0), (by first | rfl | (simp; done) | (simp [*]; done)), (by first | rfl | (simp; done) | (simp [*]; done)), H', ⟨Nat.le_refl _⟩, ⟨by (with_reducible repeat (first | apply Kd.R_alloc | apply Kd.R_drewN | apply Kd.R_drew)); exact HO_5.out⟩, ⟨by (with_reducible repeat (first | apply Kd.R_alloc | apply Kd.R_drewN | apply Kd.R_drew)); exact HO_6.out⟩, ⟨by (with_reducible repeat (first | refine blk_drewN ?_ _ | refine blk_drew ?_ | refine blk_alloc ?_ _)); exact BK415.out⟩, ⟨by repeat (first | (with_reducible first | exact HB.out | apply below_alloc | apply pw_below_drewN | apply below_drew1 | refine below_set ?_ GE415.out) | exact HB.out)⟩⟩
        case round =>
         clear H'
         try clear c1; try clear p2; try clear p4; try clear q4; try clear hx4; try clear p6; try clear c14; try clear c15; try clear c15b0; try clear c16; try clear c16b0; try clear c18; try clear hfz12_0; try clear hfz12_1; try clear hfz12_2; try clear hx418_0; try clear hx418_1; try clear hx418_2; try clear hx420_0; try clear hx420_1; try clear hx420_2; try clear hx424_0; try clear hx424_1; try clear hx424_2; try clear hx425_0; try clear hx425_1; try clear hx425_2; try clear hx429_0; try clear hx429_1; try clear hx429_2; try clear p2; try clear p418; try clear p420; try clear p424; try clear p425; try clear p429; try clear q418; try clear q420; try clear q424; try clear q425; try clear q429
         obtain ⟨x7_3, x11_3, rfl, rfl, HA, HK3, HO_5, HO_6, BK415, HB⟩ := hrel
         cases gk with
         | zero => exact absurd HA.out (by simp [leatlaw11_WindowCounts.l1])
         | succ k3 =>
          have H := HA.out
          clear HA
          simp only [leatlaw11_WindowCounts.l1] at H
          by_cases c31 : x11_3 < (x5_2.length : Int)
          ·rw [if_pos c31] at H
           have c31b0 : decide (x11_3 < (x5_2.length : Int)) = true := decide_eq_true c31
           clear c31
           by_cases c32 : 0 ≤ x11_3
           ·rw [if_pos c32] at H
            have c32b0 : decide (0 ≤ x11_3) = true := decide_eq_true c32
            clear c32
            have H' := Aside0.mk H
            clear H
            obtain ⟨Ao33, co33, eo33⟩ := Kd.R_slice HO_5.out
            subst eo33
            have p433 : 0 ≤ (x11_3 : Int) := of_decide_eq_true (by first | (with_reducible assumption) | assumption)
            have q433 : x11_3 < (x5_2.length : Int) := of_decide_eq_true (by first | (with_reducible assumption) | assumption)
            obtain ⟨ad433, e433, hx433_0, hx433_1, hx433_2, hx433_3⟩ := at_T46 (Kd.R_reads' HO_5.out).2.2 x11_3 p433 q433
            cases e433
            replace p433 := eq_true p433
            replace q433 := eq_true q433
            go_wp2
            go_roundg k3
            case measure => have := HJ4.out; have := HK2.out; have := HK3.out; omega
            case rel => exact ⟨(wrap64 (x7_3 - ((rd_T46 x5_2 x11_3).f2))), (wrap64 (x11_3 + 1)), (by first | rfl | (simp; done) | (simp [*]; done)), (by first | rfl | (simp; done) | (simp [*]; done)), H', ⟨by have := HJ4.out; have := HK2.out; have := HK3.out; omega⟩, ⟨by (with_reducible repeat (first | apply Kd.R_alloc | apply Kd.R_drewN | apply Kd.R_drew)); exact HO_5.out⟩, ⟨by (with_reducible repeat (first | apply Kd.R_alloc | apply Kd.R_drewN | apply Kd.R_drew)); exact HO_6.out⟩, ⟨by (with_reducible repeat (first | refine blk_drewN ?_ _ | refine blk_drew ?_ | refine blk_alloc ?_ _)); exact BK415.out⟩, ⟨by repeat (first | (with_reducible first | exact HB.out | apply below_alloc | apply pw_below_drewN | apply below_drew1 | refine below_set ?_ GE415.out) | exact HB.out)⟩⟩
           ·rw [if_neg c32] at H
            exact absurd H (by simp)
          ·rw [if_neg c31] at H
           have c31b0 : decide (x11_3 < (x5_2.length : Int)) = false := decide_eq_false c31
           clear c31
           have H' := Aside0.mk H
           clear H
           obtain ⟨Ao34, co34, eo34⟩ := Kd.R_slice HO_5.out
           subst eo34
           go_wp2
           go_loopg [8, 12] k3 (fun kq v8 v12 w' => ∃ (x8_4 : Int) (x12_4 : Int), v8 = .int .i64 x8_4 ∧ v12 = .int .i64 x12_4 ∧ Aside0 (leatlaw11_WindowCounts.l2 kq x5_2 x6_2 x7_3 x8_4 x12_4 = some r) ∧ Aside0 (kq ≤ k3) ∧ Aside0 (Kd.R k46 46 w' w.heap.size (fun k_ => some k_ ≠ (u6 : Value).ownBlock) (.slice Ao34 x5_2.length co34) x5_2) ∧ Aside0 (Kd.R k46 46 w' w.heap.size (fun k_ => some k_ ≠ ((.slice Ao34 x5_2.length co34) : Value).ownBlock) u6 x6_2) ∧ Aside0 (w'.heap[gb415]? = some (.cells #[.int .i64 a0_0, .int .i64 a0_1, .int .i64 a0_2] 23 (0, 0))) ∧ Aside0 (Below w.heap.size w w'))
           case atStart => exact ⟨(x8_2), (0), (by first | rfl | (simp; done) | (simp [*]; done)), (by first | rfl | (simp; done) | (simp [*]; done)), H', ⟨Nat.le_refl _⟩, ⟨by (with_reducible repeat (first | apply Kd.R_alloc | apply Kd.R_drewN | apply Kd.R_drew)); exact HO_5.out⟩, ⟨by (with_reducible repeat (first | apply Kd.R_alloc | apply Kd.R_drewN | apply Kd.R_drew)); exact HO_6.out⟩, ⟨by (with_reducible repeat (first | refine blk_drewN ?_ _ | refine blk_drew ?_ | refine blk_alloc ?_ _)); exact BK415.out⟩, ⟨by repeat (first | (with_reducible first | exact HB.out | apply below_alloc | apply pw_below_drewN | apply below_drew1 | refine below_set ?_ GE415.out) | exact HB.out)⟩⟩
           case round =>
            clear H'
            try clear c1; try clear p2; try clear c3; try clear p4; try clear q4; try clear hx4; try clear p6; try clear c14; try clear c15; try clear c15b0; try clear c16; try clear c16b0; try clear c18; try clear c31; try clear c31b0; try clear c32; try clear c32b0; try clear hfz12_0; try clear hfz12_1; try clear hfz12_2; try clear hx418_0; try clear hx418_1; try clear hx418_2; try clear hx420_0; try clear hx420_1; try clear hx420_2; try clear hx424_0; try clear hx424_1; try clear hx424_2; try clear hx425_0; try clear hx425_1; try clear hx425_2; try clear hx429_0; try clear hx429_1; try clear hx429_2; try clear hx433_0; try clear hx433_1; try clear hx433_2; try clear hx433_3; try clear p2; try clear p4; try clear p418; try clear p420; try clear p424; try clear p425; try clear p429; try clear p433; try clear p6; try clear q4; try clear q418; try clear q420; try clear q424; try clear q425; try clear q429; try clear q433
            obtain ⟨x8_4, x12_4, rfl, rfl, HA, HK4, HO_5, HO_6, BK415, HB⟩ := hrel
            cases gk with
            | zero => exact absurd HA.out (by simp [leatlaw11_WindowCounts.l2])
            | succ k4 =>
             have H := HA.out
             clear HA
             simp only [leatlaw11_WindowCounts.l2] at H
             by_cases c35 : x12_4 < (x6_2.length : Int)
             ·rw [if_pos c35] at H
              have c35b0 : decide (x12_4 < (x6_2.length : Int)) = true := decide_eq_true c35
              clear c35
              by_cases c36 : 0 ≤ x12_4
              ·rw [if_pos c36] at H
               have c36b0 : decide (0 ≤ x12_4) = true := decide_eq_true c36
               clear c36
               have H' := Aside0.mk H
               clear H
               obtain ⟨Ao37, co37, eo37⟩ := Kd.R_slice HO_6.out
               subst eo37
               have p434 : 0 ≤ (x12_4 : Int) := of_decide_eq_true (by first | (with_reducible assumption) | assumption)
               have q434 : x12_4 < (x6_2.length : Int) := of_decide_eq_true (by first | (with_reducible assumption) | assumption)
               obtain ⟨ad434, e434, hx434_0, hx434_1, hx434_2, hx434_3⟩ := at_T46 (Kd.R_reads' HO_6.out).2.2 x12_4 p434 q434
               cases e434
               replace p434 := eq_true p434
               replace q434 := eq_true q434
               go_wp2
               go_roundg k4
               case measure => have := HJ4.out; have := HK2.out; have := HK3.out; have := HK4.out; omega
               case rel => exact ⟨(wrap64 (x8_4 - ((rd_T46 x6_2 x12_4).f2))), (wrap64 (x12_4 + 1)), (by first | rfl | (simp; done) | (simp [*]; done)), (by first | rfl | (simp; done) | (simp [*]; done)), H', ⟨by have := HJ4.out; have := HK2.out; have := HK3.out; have := HK4.out; omega⟩, ⟨by (with_reducible repeat (first | apply Kd.R_alloc | apply Kd.R_drewN | apply Kd.R_drew)); exact HO_5.out⟩, ⟨by (with_reducible repeat (first | apply Kd.R_alloc | apply Kd.R_drewN | apply Kd.R_drew)); exact HO_6.out⟩, ⟨by (with_reducible repeat (first | refine blk_drewN ?_ _ | refine blk_drew ?_ | refine blk_alloc ?_ _)); exact BK415.out⟩, ⟨by repeat (first | (with_reducible first | exact HB.out | apply below_alloc | apply pw_below_drewN | apply below_drew1 | refine below_set ?_ GE415.out) | exact HB.out)⟩⟩
              ·rw [if_neg c36] at H
               exact absurd H (by simp)
             ·rw [if_neg c35] at H
              have c35b0 : decide (x12_4 < (x6_2.length : Int)) = false := decide_eq_false c35
              clear c35
              by_cases c38 : x7_3 = 0
              ·rw [if_pos c38] at H
               have c38b0 : (x7_3 == 0) = true := beq_iff_eq.mpr c38
               have c38b1 : (x7_3 != 0) = false := bne_eq_false_iff_eq.mpr c38
               clear c38
               by_cases c39 : x8_4 = 0
               ·rw [if_pos c39] at H
                have c39b0 : (x8_4 == 0) = true := beq_iff_eq.mpr c39
                have c39b1 : (x8_4 != 0) = false := bne_eq_false_iff_eq.mpr c39
                clear c39
                obtain rfl := Option.some.inj H
                obtain ⟨Ao40, co40, eo40⟩ := Kd.R_slice HO_6.out
                subst eo40
                go_wp2
                go_ret
                exact ⟨by first | rfl | (simp [errW_none, errW_some] <;> rfl) | (simp [*, errW_none, errW_some] <;> rfl), by repeat (first | (with_reducible first | exact HB.out | apply below_alloc | apply pw_below_drewN | apply below_drew1 | refine below_set ?_ GE415.out) | exact HB.out)⟩
               ·rw [if_neg c39] at H
                exact absurd H (by simp)
              ·rw [if_neg c38] at H
               exact absurd H (by simp)
 ·replace c4 := Bool.eq_false_iff.mpr c4
  subst c4
  have H1 : (none) = some r := by rw [if_neg (show ¬ (false = true) by decide)] at H; exact H
  clear H
  have H := H1
  clear H1
  exact absurd H (by simp)
end Go.Proofs.Ytdinbnbogdadgaa.X
