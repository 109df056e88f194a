/- Proofs towards the laws of this seat, joined. No conditions beyond those typed. -/
import Derived.Test.YtdinbnbogdadgaaB10
import Derived.Test.YtdinbnbogdadgaaB17
import Derived.Test.YtdinbnbogdadgaaB11
import Derived.Test.YtdinbnbogdadgaaDXf24
import Derived.Test.YtdinbnbogdadgaaB7
import Derived.Test.YtdinbnbogdadgaaB16
namespace Go.Proofs.Ytdinbnbogdadgaa.X
open Go.RowKit Go.Proofs.YtdinbnbogdadgaaW.PrintWords Go.Proofs.YtdinbnbogdadgaaW.PrintLast Go.Proofs.YtdinbnbogdadgaaW.PrintMore
attribute [local go_sem] max2_int min2_int max_two min_two max_three min_three max_four min_four   -- for this text's walks alone
set_option linter.unusedVariables false
set_option linter.unusedSimpArgs false
mutual
def leatlaw11_WindowShift.j0 : Nat → Int → List (S37) → Int → Bool → Int → Int → Int → Option (Bool)
 | 0, _, _, _, _, _, _, _ => none
 | k + 1, x1, x2, x3, x39, x464000, x464001, x464002 => if x39 = true then (some true) else ((leathelp_Place.f x3 9).bind fun t467 => (leatlaw11_WindowShift.l0 k x1 x2 (wrap64 ((wrap64 (x464001 * (mx x464002 1))) * (wrap64 (t467 - 4)))) ([] : List (S46)) ([] : List (S46)) 0 x464000 x464001 x464002))
def leatlaw11_WindowShift.l0 : Nat → Int → List (S37) → Int → List (S46) → List (S46) → Int → Int → Int → Int → Option (Bool)
 | 0, _, _, _, _, _, _, _, _, _ => none
 | k + 1, x1, x2, x9, x10, x11, x12, x464000, x464001, x464002 => if x12 < (x2.length : Int) then (if 0 ≤ x12 then ((leatlaw11_time.f ((rd_T37 x2 x12).f1)).bind fun t469 => (if t469 = true then ((leatlaw11_time.f (wrap64 (((rd_T37 x2 x12).f1) + x9))).bind fun t471 => (leatlaw11_WindowShift.j2 k x1 x2 x9 x10 x11 x12 (!t471) x464000 x464001 x464002)) else (leatlaw11_WindowShift.j2 k x1 x2 x9 x10 x11 x12 true x464000 x464001 x464002))) else (none)) else (if (x10.length : Int) = (x11.length : Int) then (leatlaw11_WindowShift.l1 k x9 x10 x11 0) else (none))
def leatlaw11_WindowShift.j2 : Nat → Int → List (S37) → Int → List (S46) → List (S46) → Int → Bool → Int → Int → Int → Option (Bool)
 | 0, _, _, _, _, _, _, _, _, _, _ => none
 | k + 1, x1, x2, x9, x10, x11, x12, x73, x464000, x464001, x464002 => if x73 = true then (some true) else (if 0 ≤ x12 then (if x12 < (x2.length : Int) then ((window_Put.f k x464000 x464001 x464002 x1 x10 ((rd_T37 x2 x12).f0) ((rd_T37 x2 x12).f1) ((rd_T37 x2 x12).f2)).bind fun t473 => ((window_Put.f k x464000 x464001 x464002 x1 x11 ((rd_T37 x2 x12).f0) (wrap64 (((rd_T37 x2 x12).f1) + x9)) ((rd_T37 x2 x12).f2)).bind fun t478 => (leatlaw11_WindowShift.l0 k x1 x2 x9 t473 t478 (wrap64 (x12 + 1)) x464000 x464001 x464002))) else (none)) else (none))
def leatlaw11_WindowShift.l1 : Nat → Int → List (S46) → List (S46) → Int → Option (Bool)
 | 0, _, _, _, _ => none
 | k + 1, x9, x10, x11, x14 => if x14 < (x11.length : Int) then (if 0 ≤ x14 then (leatlaw11_WindowShift.l1 k x9 x10 (x11.set (x14 : Int).toNat (⟨(rd_T46 x11 x14).f0, (⟨wrap64 (((rd_T46 x11 x14).f1.f0) - x9), wrap64 (((rd_T46 x11 x14).f1.f1) - x9)⟩ : S31), (rd_T46 x11 x14).f2⟩ : S46)) (wrap64 (x14 + 1))) else (none)) else ((leathelp_Panes.f k x10 x11).bind fun t484 => (some t484))
end
def leatlaw11_WindowShift.f (k : Nat) (a0_0 : Int) (a0_1 : Int) (a0_2 : Int) (a1 : Int) (l2 : List (S37)) (a3 : Int) : Option (Bool) := (leatlaw11_known.f k).bind fun t464 => (if t464 = true then ((leatlaw11_fit.f k a0_0 a0_1 a0_2).bind fun t465 => (if t465 = true then (if (l2.length : Int) > 60 then (leatlaw11_WindowShift.j0 k a1 l2 a3 true a0_0 a0_1 a0_2) else ((agg_Is.f a1).bind fun t466 => (if t466 = true then (if a0_1 > 1048576 then (leatlaw11_WindowShift.j0 k a1 l2 a3 true a0_0 a0_1 a0_2) else (leatlaw11_WindowShift.j0 k a1 l2 a3 (decide (a0_2 > 1048576)) a0_0 a0_1 a0_2)) else (leatlaw11_WindowShift.j0 k a1 l2 a3 true a0_0 a0_1 a0_2)))) else (leatlaw11_WindowShift.j0 k a1 l2 a3 true a0_0 a0_1 a0_2))) else (none))
theorem leatlaw11_WindowShift.mono_l : ∀ k, (∀ y0 y1 y2 y3 y4 y5 y6, LeO (leatlaw11_WindowShift.j0 k y0 y1 y2 y3 y4 y5 y6) (leatlaw11_WindowShift.j0 (k + 1) y0 y1 y2 y3 y4 y5 y6)) ∧ (∀ y0 y1 y2 y3 y4 y5 y6 y7 y8, LeO (leatlaw11_WindowShift.l0 k y0 y1 y2 y3 y4 y5 y6 y7 y8) (leatlaw11_WindowShift.l0 (k + 1) y0 y1 y2 y3 y4 y5 y6 y7 y8)) ∧ (∀ y0 y1 y2 y3 y4 y5 y6 y7 y8 y9, LeO (leatlaw11_WindowShift.j2 k y0 y1 y2 y3 y4 y5 y6 y7 y8 y9) (leatlaw11_WindowShift.j2 (k + 1) y0 y1 y2 y3 y4 y5 y6 y7 y8 y9)) ∧ (∀ y0 y1 y2 y3, LeO (leatlaw11_WindowShift.l1 k y0 y1 y2 y3) (leatlaw11_WindowShift.l1 (k + 1) y0 y1 y2 y3))
 | 0 => ⟨fun _ _ _ _ _ _ _ r h => by simp [leatlaw11_WindowShift.j0] at h, fun _ _ _ _ _ _ _ _ _ r h => by simp [leatlaw11_WindowShift.l0] at h, fun _ _ _ _ _ _ _ _ _ _ r h => by simp [leatlaw11_WindowShift.j2] at h, fun _ _ _ _ r h => by simp [leatlaw11_WindowShift.l1] at h⟩
 | k + 1 => by
  obtain ⟨ih0, ih1, ih2, ih3⟩ := leatlaw11_WindowShift.mono_l k
  refine ⟨?_, ?_, ?_, ?_⟩
  ·intro y0 y1 y2 y3 y4 y5 y6
   unfold leatlaw11_WindowShift.j0
   repeat' first
   | (with_reducible exact ih0 _ _ _ _ _ _ _)
   | (with_reducible exact ih1 _ _ _ _ _ _ _ _ _)
   | (with_reducible exact ih2 _ _ _ _ _ _ _ _ _ _)
   | (with_reducible exact ih3 _ _ _ _)
   | (with_reducible exact leathelp_Panes.mono _ _ _)
   | (with_reducible exact leatlaw11_fit.mono _ _ _ _)
   | (with_reducible exact leatlaw11_known.mono _)
   | (with_reducible exact window_Put.mono _ _ _ _ _ _ _ _ _)
   | (with_reducible exact LeO.refl _)
   | (with_reducible exact LeO.none _)
   | (with_reducible refine LeO.ite ?_ ?_)
   | (with_reducible refine LeO.bind ?_ (fun _ => ?_))
   | exact ih0 _ _ _ _ _ _ _
   | exact ih1 _ _ _ _ _ _ _ _ _
   | exact ih2 _ _ _ _ _ _ _ _ _ _
   | exact ih3 _ _ _ _
   | exact leathelp_Panes.mono _ _ _
   | exact leatlaw11_fit.mono _ _ _ _
   | exact leatlaw11_known.mono _
   | exact window_Put.mono _ _ _ _ _ _ _ _ _
   | exact LeO.none _
   | refine LeO.ite ?_ ?_
   | refine LeO.bind ?_ (fun _ => ?_)
  ·intro y0 y1 y2 y3 y4 y5 y6 y7 y8
   unfold leatlaw11_WindowShift.l0
   repeat' first
   | (with_reducible exact ih0 _ _ _ _ _ _ _)
   | (with_reducible exact ih1 _ _ _ _ _ _ _ _ _)
   | (with_reducible exact ih2 _ _ _ _ _ _ _ _ _ _)
   | (with_reducible exact ih3 _ _ _ _)
   | (with_reducible exact leathelp_Panes.mono _ _ _)
   | (with_reducible exact leatlaw11_fit.mono _ _ _ _)
   | (with_reducible exact leatlaw11_known.mono _)
   | (with_reducible exact window_Put.mono _ _ _ _ _ _ _ _ _)
   | (with_reducible exact LeO.refl _)
   | (with_reducible exact LeO.none _)
   | (with_reducible refine LeO.ite ?_ ?_)
   | (with_reducible refine LeO.bind ?_ (fun _ => ?_))
   | exact ih0 _ _ _ _ _ _ _
   | exact ih1 _ _ _ _ _ _ _ _ _
   | exact ih2 _ _ _ _ _ _ _ _ _ _
   | exact ih3 _ _ _ _
   | exact leathelp_Panes.mono _ _ _
   | exact leatlaw11_fit.mono _ _ _ _
   | exact leatlaw11_known.mono _
   | exact window_Put.mono _ _ _ _ _ _ _ _ _
   | exact LeO.none _
   | refine LeO.ite ?_ ?_
   | refine LeO.bind ?_ (fun _ => ?_)
  ·intro y0 y1 y2 y3 y4 y5 y6 y7 y8 y9
   unfold leatlaw11_WindowShift.j2
   repeat' first
   | (with_reducible exact ih0 _ _ _ _ _ _ _)
   | (with_reducible exact ih1 _ _ _ _ _ _ _ _ _)
   | (with_reducible exact ih2 _ _ _ _ _ _ _ _ _ _)
   | (with_reducible exact ih3 _ _ _ _)
   | (with_reducible exact leathelp_Panes.mono _ _ _)
   | (with_reducible exact leatlaw11_fit.mono _ _ _ _)
   | (with_reducible exact leatlaw11_known.mono _)
   | (with_reducible exact window_Put.mono _ _ _ _ _ _ _ _ _)
   | (with_reducible exact LeO.refl _)
   | (with_reducible exact LeO.none _)
   | (with_reducible refine LeO.ite ?_ ?_)
   | (with_reducible refine LeO.bind ?_ (fun _ => ?_))
   | exact ih0 _ _ _ _ _ _ _
   | exact ih1 _ _ _ _ _ _ _ _ _
   | exact ih2 _ _ _ _ _ _ _ _ _ _
   | exact ih3 _ _ _ _
   | exact leathelp_Panes.mono _ _ _
   | exact leatlaw11_fit.mono _ _ _ _
   | exact leatlaw11_known.mono _
   | exact window_Put.mono _ _ _ _ _ _ _ _ _
   | exact LeO.none _
   | refine LeO.ite ?_ ?_
   | refine LeO.bind ?_ (fun _ => ?_)
  ·intro y0 y1 y2 y3
   unfold leatlaw11_WindowShift.l1
   repeat' first
   | (with_reducible exact ih0 _ _ _ _ _ _ _)
   | (with_reducible exact ih1 _ _ _ _ _ _ _ _ _)
   | (with_reducible exact ih2 _ _ _ _ _ _ _ _ _ _)
   | (with_reducible exact ih3 _ _ _ _)
   | (with_reducible exact leathelp_Panes.mono _ _ _)
   | (with_reducible exact leatlaw11_fit.mono _ _ _ _)
   | (with_reducible exact leatlaw11_known.mono _)
   | (with_reducible exact window_Put.mono _ _ _ _ _ _ _ _ _)
   | (with_reducible exact LeO.refl _)
   | (with_reducible exact LeO.none _)
   | (with_reducible refine LeO.ite ?_ ?_)
   | (with_reducible refine LeO.bind ?_ (fun _ => ?_))
   | exact ih0 _ _ _ _ _ _ _
   | exact ih1 _ _ _ _ _ _ _ _ _
   | exact ih2 _ _ _ _ _ _ _ _ _ _
   | exact ih3 _ _ _ _
   | exact leathelp_Panes.mono _ _ _
   | exact leatlaw11_fit.mono _ _ _ _
   | exact leatlaw11_known.mono _
   | exact window_Put.mono _ _ _ _ _ _ _ _ _
   | exact LeO.none _
   | refine LeO.ite ?_ ?_
   | refine LeO.bind ?_ (fun _ => ?_)
theorem leatlaw11_WindowShift.mono : ∀ a0 a1 a2 a3 a4 a5 k, LeO (leatlaw11_WindowShift.f k a0 a1 a2 a3 a4 a5) (leatlaw11_WindowShift.f (k + 1) a0 a1 a2 a3 a4 a5) := by
 intro a0 a1 a2 a3 a4 a5 k
 obtain ⟨ih0, ih1, ih2, ih3⟩ := leatlaw11_WindowShift.mono_l k
 unfold leatlaw11_WindowShift.f
 repeat' first
   | (with_reducible exact ih0 _ _ _ _ _ _ _)
   | (with_reducible exact ih1 _ _ _ _ _ _ _ _ _)
   | (with_reducible exact ih2 _ _ _ _ _ _ _ _ _ _)
   | (with_reducible exact ih3 _ _ _ _)
   | (with_reducible exact leathelp_Panes.mono _ _ _)
   | (with_reducible exact leatlaw11_fit.mono _ _ _ _)
   | (with_reducible exact leatlaw11_known.mono _)
   | (with_reducible exact window_Put.mono _ _ _ _ _ _ _ _ _)
   | (with_reducible exact LeO.refl _)
   | (with_reducible exact LeO.none _)
   | (with_reducible refine LeO.ite ?_ ?_)
   | (with_reducible refine LeO.bind ?_ (fun _ => ?_))
   | exact ih0 _ _ _ _ _ _ _
   | exact ih1 _ _ _ _ _ _ _ _ _
   | exact ih2 _ _ _ _ _ _ _ _ _ _
   | exact ih3 _ _ _ _
   | exact leathelp_Panes.mono _ _ _
   | exact leatlaw11_fit.mono _ _ _ _
   | exact leatlaw11_known.mono _
   | exact window_Put.mono _ _ _ _ _ _ _ _ _
   | exact LeO.none _
   | refine LeO.ite ?_ ?_
   | refine LeO.bind ?_ (fun _ => ?_)
def leatlaw11_WindowShift.T5 : Bool × List (List Nat × List Nat) := (true, [([], []), ([0], [0]), ([], []), ([2], [2]), ([3], [3]), ([1, 4], [1, 4]), ([], []), ([6], [6]), ([7], [7]), ([5, 8], [5, 8]), ([9, 7, 0, 1, 2, 3, 4, 5, 6, 7, 8, 9], [9])])
def leatlaw11_WindowShift.B5 : List Nat := [0, 1, 0, 4, 12, 31, 0, 64, 192, 511, 1023]
theorem leatlaw11_WindowShift.tab5 : rtab .any (opsOf Try.f8 5) = leatlaw11_WindowShift.T5 := by kernel_rfl
theorem leatlaw11_WindowShift.bits5 : waitsOk leatlaw11_WindowShift.T5.2 leatlaw11_WindowShift.B5 = true := by kernel_rfl
def leatlaw11_WindowShift.T12 : Bool × List (List Nat × List Nat) := (true, [([], []), ([], []), ([], []), ([], []), ([], []), ([3, 4], [3, 4]), ([5], [5]), ([0, 1, 2, 6], [0, 1, 2, 6]), ([7, 7, 0, 1, 2, 3, 4, 5, 6, 7], [2, 7])])
def leatlaw11_WindowShift.B12 : List Nat := [0, 0, 0, 0, 0, 24, 56, 127, 255]
theorem leatlaw11_WindowShift.tab12 : rtab .any (opsOf Try.f8 12) = leatlaw11_WindowShift.T12 := by kernel_rfl
theorem leatlaw11_WindowShift.bits12 : waitsOk leatlaw11_WindowShift.T12.2 leatlaw11_WindowShift.B12 = true := by kernel_rfl
def leatlaw11_WindowShift.T21 : Bool × List (List Nat × List Nat) := (true, [([], []), ([], []), ([], []), ([], []), ([2, 3], [2, 3]), ([4], [4]), ([5], [5]), ([6], [6]), ([], []), ([7, 8], [7, 8]), ([], []), ([], []), ([10, 11], [10, 11]), ([12], [12]), ([13], [13]), ([14], [14]), ([], []), ([15, 16], [15, 16]), ([9, 17], [9, 17]), ([0, 1, 0, 1, 2, 3, 4, 5, 6, 7, 8, 9, 10, 11, 12, 13, 14, 15, 16, 17, 18], [0, 1]), ([19, 0, 1, 2, 3, 4, 5, 6, 7, 8, 9, 10, 11, 12, 13, 14, 15, 16, 17, 18], [19]), ([20, 18, 0, 1, 2, 3, 4, 5, 6, 7, 8, 9, 10, 11, 12, 13, 14, 15, 16, 17, 18], [18, 20])])
def leatlaw11_WindowShift.B21 : List Nat := [0, 0, 0, 0, 12, 28, 60, 124, 0, 508, 0, 0, 3072, 7168, 15360, 31744, 0, 130048, 262140, 524287, 1048575, 2097151]
theorem leatlaw11_WindowShift.tab21 : rtab .any (opsOf Try.f8 21) = leatlaw11_WindowShift.T21 := by kernel_rfl
theorem leatlaw11_WindowShift.bits21 : waitsOk leatlaw11_WindowShift.T21.2 leatlaw11_WindowShift.B21 = true := by kernel_rfl
set_option maxHeartbeats 8000000 in
set_option maxRecDepth 100000 in
theorem leatlaw11_WindowShift.calls (k : Nat) (a0_0 : Int) (a0_1 : Int) (a0_2 : Int) (a1 : Int) (A2 : Option Addr) (c2 : Nat) (l2 : List (S37)) (a3 : Int) (r : Bool) (w : World) (hr2 : Kd.C k37 w A2 l2.length l2) (hc2 : l2.length ≤ c2) (h : leatlaw11_WindowShift.f k a0_0 a0_1 a0_2 a1 l2 a3 = some r) :
  Calls Try.prog 8 #[.agg #[.int .i64 a0_0, .int .i64 a0_1, .int .i64 a0_2], .int .i64 a1, .slice A2 l2.length c2, .int .i64 a3] w fun e w' => e = .returned (.bool r) ∧ Below w.heap.size w w' := by
 have hu23 := Try.underlying23
 have hu37 := Try.underlying37
 have hu31 := Try.underlying31
 have HR2 := Aside0.mk hr2
 have HC2 := Aside0.mk hc2
 clear hr2 hc2
 have HB := Aside0.mk (Below.refl w.heap.size w)
 have H : ((leatlaw11_known.f k).bind fun t464 => (if t464 = true then ((leatlaw11_fit.f k a0_0 a0_1 a0_2).bind fun t465 => (if t465 = true then (if (l2.length : Int) > 60 then (leatlaw11_WindowShift.j0 k a1 l2 a3 true a0_0 a0_1 a0_2) else ((agg_Is.f a1).bind fun t466 => (if t466 = true then (if a0_1 > 1048576 then (leatlaw11_WindowShift.j0 k a1 l2 a3 true a0_0 a0_1 a0_2) else (leatlaw11_WindowShift.j0 k a1 l2 a3 (decide (a0_2 > 1048576)) a0_0 a0_1 a0_2)) else (leatlaw11_WindowShift.j0 k a1 l2 a3 true a0_0 a0_1 a0_2)))) else (leatlaw11_WindowShift.j0 k a1 l2 a3 true a0_0 a0_1 a0_2))) else (none))) = some r := h
 clear h
 replace H := Option.bind_eq_some_iff.mp H
 obtain ⟨t464, A50, H⟩ := H
 replace H : (if t464 = true then ((leatlaw11_fit.f k a0_0 a0_1 a0_2).bind fun t465 => (if t465 = true then (if (l2.length : Int) > 60 then (leatlaw11_WindowShift.j0 k a1 l2 a3 true a0_0 a0_1 a0_2) else ((agg_Is.f a1).bind fun t466 => (if t466 = true then (if a0_1 > 1048576 then (leatlaw11_WindowShift.j0 k a1 l2 a3 true a0_0 a0_1 a0_2) else (leatlaw11_WindowShift.j0 k a1 l2 a3 (decide (a0_2 > 1048576)) a0_0 a0_1 a0_2)) else (leatlaw11_WindowShift.j0 k a1 l2 a3 true a0_0 a0_1 a0_2)))) else (leatlaw11_WindowShift.j0 k a1 l2 a3 true a0_0 a0_1 a0_2))) else (none)) = some r := H
 have A5 := Aside0.mk A50
 clear A50
 by_cases c6 : t464 = true
 ·subst c6
  have H1 : ((leatlaw11_fit.f k a0_0 a0_1 a0_2).bind fun t465 => (if t465 = true then (if (l2.length : Int) > 60 then (leatlaw11_WindowShift.j0 k a1 l2 a3 true a0_0 a0_1 a0_2) else ((agg_Is.f a1).bind fun t466 => (if t466 = true then (if a0_1 > 1048576 then (leatlaw11_WindowShift.j0 k a1 l2 a3 true a0_0 a0_1 a0_2) else (leatlaw11_WindowShift.j0 k a1 l2 a3 (decide (a0_2 > 1048576)) a0_0 a0_1 a0_2)) else (leatlaw11_WindowShift.j0 k a1 l2 a3 true a0_0 a0_1 a0_2)))) else (leatlaw11_WindowShift.j0 k a1 l2 a3 true a0_0 a0_1 a0_2))) = some r := by rw [if_pos rfl] at H; exact H
  clear H
  have H := H1
  clear H1
  have HC7 := Aside0.mk H
  clear H
  go_enter Try.func8, Try.ntmps8
  go_upto_region 3 with (first | ((with_reducible refine gate_dst (N := 4) rfl ?_); (try (refine gate_guard (by rfl) ?_; dsimp only)); refine box_event ?hg (N := 4) ?hd (cs := #[.int .i64 a0_0, .int .i64 a0_1, .int .i64 a0_2]) (t := 23) ?hr ?_; (case hd => rfl); (case hg => rfl); (case hr => first | (go_simp; done) | (go_simp; rfl)); intro gb463 hg w8 hbox hb; have n0_ := Aside0.mk (below_step (by repeat (first | (with_reducible first | exact HB.out | apply below_alloc | apply pw_below_drewN | apply below_drew1) | exact HB.out)) hb); have n1_ := Aside0.mk (hbox); have n2_ := Aside0.mk ((by rw [hg]; exact (below_size (by repeat (first | (with_reducible first | exact HB.out | apply below_alloc | apply pw_below_drewN | apply below_drew1) | exact HB.out))) : w.heap.size ≤ gb463)); have n3_ := Aside0.mk ((by rw [hg]; exact (below_size (by repeat (first | (with_reducible first | exact HB.out | apply below_alloc | apply pw_below_drewN | apply below_drew1) | exact HB.out))) : w.heap.size ≤ gb463)); clear HB; have HB := n0_; have BK463 := n1_; have GW463 := n2_; have GE463 := n3_; clear n0_ n1_ n2_ n3_; clear hb hbox hg) | ((with_reducible refine gate_callee (f := 12) rfl ?_); refine goesL_ (some 15) rfl rfl Try.func12 (by kernel_rfl) rfl #[] rfl (by (try simp only [List.map_toArray, List.map_cons, List.map_nil]); first | done | rfl | (simp only [List.length_drop, List.length_take]; rfl)) ?_; (with_reducible refine (leatlaw11_known.calls k  true _ A5.out).mono ?_); rintro e w9 ⟨rfl, hb⟩; refine ⟨_, rfl, ?_⟩; have n0_ := Aside0.mk (blk_below (g := gb463) (o := .cells #[.int .i64 a0_0, .int .i64 a0_1, .int .i64 a0_2] 23 (0, 0)) (by (with_reducible repeat (first | refine blk_drewN ?_ _ | refine blk_drew ?_ | refine blk_alloc ?_ _)); exact BK463.out) hb); have n1_ := Aside0.mk (below_step (by repeat (first | (with_reducible first | exact HB.out | apply below_alloc | apply pw_below_drewN | apply below_drew1 | refine below_set ?_ GE463.out) | exact HB.out)) hb); clear BK463; clear HB; have BK463 := n0_; have HB := n1_; clear n0_ n1_; (try clear hb); (try clear hb2); (try clear hk); (try clear hi)))
  (try simp only [Act.put, List.setIfInBounds_toArray, List.set_cons_zero, List.set_cons_succ])
  go_cut [39] (fun v39 wc => ∃ (kq : Nat) (x39_6 : Bool), v39 = .bool x39_6 ∧ Aside0 (leatlaw11_WindowShift.j0 kq a1 l2 a3 x39_6 a0_0 a0_1 a0_2 = some r) ∧ Aside0 (kq ≤ k) ∧ Aside0 (wc.heap[gb463]? = some (.cells #[.int .i64 a0_0, .int .i64 a0_1, .int .i64 a0_2] 23 (0, 0))) ∧ Aside0 (Below w.heap.size w wc))
  case first =>
   have H := HC7.out
   clear HC7
   replace H := Option.bind_eq_some_iff.mp H
   obtain ⟨t465, A100, H⟩ := H
   replace H : (if t465 = true then (if (l2.length : Int) > 60 then (leatlaw11_WindowShift.j0 k a1 l2 a3 true a0_0 a0_1 a0_2) else ((agg_Is.f a1).bind fun t466 => (if t466 = true then (if a0_1 > 1048576 then (leatlaw11_WindowShift.j0 k a1 l2 a3 true a0_0 a0_1 a0_2) else (leatlaw11_WindowShift.j0 k a1 l2 a3 (decide (a0_2 > 1048576)) a0_0 a0_1 a0_2)) else (leatlaw11_WindowShift.j0 k a1 l2 a3 true a0_0 a0_1 a0_2)))) else (leatlaw11_WindowShift.j0 k a1 l2 a3 true a0_0 a0_1 a0_2)) = some r := H
   have A10 := Aside0.mk A100
   clear A100
   by_cases c11 : t465 = true
   ·subst c11
    have H1 : (if (l2.length : Int) > 60 then (leatlaw11_WindowShift.j0 k a1 l2 a3 true a0_0 a0_1 a0_2) else ((agg_Is.f a1).bind fun t466 => (if t466 = true then (if a0_1 > 1048576 then (leatlaw11_WindowShift.j0 k a1 l2 a3 true a0_0 a0_1 a0_2) else (leatlaw11_WindowShift.j0 k a1 l2 a3 (decide (a0_2 > 1048576)) a0_0 a0_1 a0_2)) else (leatlaw11_WindowShift.j0 k a1 l2 a3 true a0_0 a0_1 a0_2)))) = some r := by rw [if_pos rfl] at H; exact H
    clear H
    have H := H1
    clear H1
    by_cases c12 : (l2.length : Int) > 60
    ·rw [if_pos c12] at H
     have c12b0 : decide (60 < (l2.length : Int)) = true := decide_eq_true c12
     have c12b1 : decide (60 < l2.length) = true := decide_eq_true (by omega)
     clear c12
     (first | rw [c12b0] | (simp only [i64_w, i32_w]; rw [c12b0]) | skip)
     have H' := Aside0.mk H
     clear H
     have hcz13_0 : w9.cell? ⟨gb463, 0, none⟩ = some (.int .i64 a0_0) := (blk_cell BK463.out 0).trans rfl
     have hcz13_1 : w9.cell? ⟨gb463, 1, none⟩ = some (.int .i64 a0_1) := (blk_cell BK463.out 1).trans rfl
     have hcz13_2 : w9.cell? ⟨gb463, 2, none⟩ = some (.int .i64 a0_2) := (blk_cell BK463.out 2).trans rfl
     have hfz13_0 := blk_frozen BK463.out 0
     have hfz13_1 := blk_frozen BK463.out 1
     have hfz13_2 := blk_frozen BK463.out 2
     go_wp2_with (first | ((with_reducible refine gate_callee (f := 13) rfl ?_); refine goesL_ (some 18) rfl rfl Try.func13 (by kernel_rfl) rfl #[.agg #[.int .i64 a0_0, .int .i64 a0_1, .int .i64 a0_2]] rfl (by (try simp only [List.map_toArray, List.map_cons, List.map_nil]); first | done | rfl | (simp only [List.length_drop, List.length_take]; rfl)) ?_; (with_reducible refine (leatlaw11_fit.calls k a0_0 a0_1 a0_2 true _ A10.out).mono ?_); rintro e w14 ⟨rfl, hb⟩; refine ⟨_, rfl, ?_⟩; have n0_ := Aside0.mk (blk_below (g := gb463) (o := .cells #[.int .i64 a0_0, .int .i64 a0_1, .int .i64 a0_2] 23 (0, 0)) (by (with_reducible repeat (first | refine blk_drewN ?_ _ | refine blk_drew ?_ | refine blk_alloc ?_ _)); exact BK463.out) hb); have n1_ := Aside0.mk (below_step (by repeat (first | (with_reducible first | exact HB.out | apply below_alloc | apply pw_below_drewN | apply below_drew1 | refine below_set ?_ GE463.out) | exact HB.out)) hb); clear BK463; clear HB; have BK463 := n0_; have HB := n1_; clear n0_ n1_; (try clear hb); (try clear hb2); (try clear hk); (try clear hi)))
     go_meet
     case rel => exact ⟨_, (true), (by first | rfl | (simp; done) | (simp [*]; done)), H', ⟨by first | omega | exact Nat.le_refl _⟩, ⟨by (with_reducible repeat (first | refine blk_drewN ?_ _ | refine blk_drew ?_ | refine blk_alloc ?_ _)); exact BK463.out⟩, ⟨by repeat (first | (with_reducible first | exact HB.out | apply below_alloc | apply pw_below_drewN | apply below_drew1 | refine below_set ?_ GE463.out) | exact HB.out)⟩⟩
    ·rw [if_neg c12] at H
     have c12b0 : decide (60 < (l2.length : Int)) = false := decide_eq_false c12
     have c12b1 : decide (60 < l2.length) = false := decide_eq_false (by omega)
     clear c12
     (first | rw [c12b0] | (simp only [i64_w, i32_w]; rw [c12b0]) | skip)
     replace H := Option.bind_eq_some_iff.mp H
     obtain ⟨t466, A150, H⟩ := H
     replace H : (if t466 = true then (if a0_1 > 1048576 then (leatlaw11_WindowShift.j0 k a1 l2 a3 true a0_0 a0_1 a0_2) else (leatlaw11_WindowShift.j0 k a1 l2 a3 (decide (a0_2 > 1048576)) a0_0 a0_1 a0_2)) else (leatlaw11_WindowShift.j0 k a1 l2 a3 true a0_0 a0_1 a0_2)) = some r := H
     have A15 := Aside0.mk A150
     clear A150
     by_cases c16 : t466 = true
     ·subst c16
      have H1 : (if a0_1 > 1048576 then (leatlaw11_WindowShift.j0 k a1 l2 a3 true a0_0 a0_1 a0_2) else (leatlaw11_WindowShift.j0 k a1 l2 a3 (decide (a0_2 > 1048576)) a0_0 a0_1 a0_2)) = some r := by rw [if_pos rfl] at H; exact H
      clear H
      have H := H1
      clear H1
      by_cases c17 : a0_1 > 1048576
      ·rw [if_pos c17] at H
       have c17b0 : decide (1048576 < a0_1) = true := decide_eq_true c17
       clear c17
       have H' := Aside0.mk H
       clear H
       have hcz18_0 : w9.cell? ⟨gb463, 0, none⟩ = some (.int .i64 a0_0) := (blk_cell BK463.out 0).trans rfl
       have hcz18_1 : w9.cell? ⟨gb463, 1, none⟩ = some (.int .i64 a0_1) := (blk_cell BK463.out 1).trans rfl
       have hcz18_2 : w9.cell? ⟨gb463, 2, none⟩ = some (.int .i64 a0_2) := (blk_cell BK463.out 2).trans rfl
       have hfz18_0 := blk_frozen BK463.out 0
       have hfz18_1 := blk_frozen BK463.out 1
       have hfz18_2 := blk_frozen BK463.out 2
       go_wp2_with (first | ((with_reducible refine gate_callee (f := 13) rfl ?_); refine goesL_ (some 18) rfl rfl Try.func13 (by kernel_rfl) rfl #[.agg #[.int .i64 a0_0, .int .i64 a0_1, .int .i64 a0_2]] rfl (by (try simp only [List.map_toArray, List.map_cons, List.map_nil]); first | done | rfl | (simp only [List.length_drop, List.length_take]; rfl)) ?_; (with_reducible refine (leatlaw11_fit.calls k a0_0 a0_1 a0_2 true _ A10.out).mono ?_); rintro e w19 ⟨rfl, hb⟩; refine ⟨_, rfl, ?_⟩; have n0_ := Aside0.mk (blk_below (g := gb463) (o := .cells #[.int .i64 a0_0, .int .i64 a0_1, .int .i64 a0_2] 23 (0, 0)) (by (with_reducible repeat (first | refine blk_drewN ?_ _ | refine blk_drew ?_ | refine blk_alloc ?_ _)); exact BK463.out) hb); have n1_ := Aside0.mk (below_step (by repeat (first | (with_reducible first | exact HB.out | apply below_alloc | apply pw_below_drewN | apply below_drew1 | refine below_set ?_ GE463.out) | exact HB.out)) hb); clear BK463; clear HB; have BK463 := n0_; have HB := n1_; clear n0_ n1_; (try clear hb); (try clear hb2); (try clear hk); (try clear hi)) | (go_at_call 27; (with_reducible refine (agg_Is.calls a1 true _ A15.out).mono ?_); rintro e w20 ⟨rfl, hb⟩; have n0_ := Aside0.mk (blk_below (g := gb463) (o := .cells #[.int .i64 a0_0, .int .i64 a0_1, .int .i64 a0_2] 23 (0, 0)) (by (with_reducible repeat (first | refine blk_drewN ?_ _ | refine blk_drew ?_ | refine blk_alloc ?_ _)); exact BK463.out) hb); have n1_ := Aside0.mk (below_step (by repeat (first | (with_reducible first | exact HB.out | apply below_alloc | apply pw_below_drewN | apply below_drew1 | refine below_set ?_ GE463.out) | exact HB.out)) hb); clear BK463; clear HB; have BK463 := n0_; have HB := n1_; clear n0_ n1_; (try clear hb); (try clear hb2); (try clear hk); (try clear hi); have hcz21_0 : w20.cell? ⟨gb463, 0, none⟩ = some (.int .i64 a0_0) := (blk_cell BK463.out 0).trans rfl; have hcz21_1 : w20.cell? ⟨gb463, 1, none⟩ = some (.int .i64 a0_1) := (blk_cell BK463.out 1).trans rfl; have hcz21_2 : w20.cell? ⟨gb463, 2, none⟩ = some (.int .i64 a0_2) := (blk_cell BK463.out 2).trans rfl; have hfz21_0 := blk_frozen BK463.out 0; have hfz21_1 := blk_frozen BK463.out 1; have hfz21_2 := blk_frozen BK463.out 2))
       go_meet
       case rel => exact ⟨_, (true), (by first | rfl | (simp; done) | (simp [*]; done)), H', ⟨by first | omega | exact Nat.le_refl _⟩, ⟨by (with_reducible repeat (first | refine blk_drewN ?_ _ | refine blk_drew ?_ | refine blk_alloc ?_ _)); exact BK463.out⟩, ⟨by repeat (first | (with_reducible first | exact HB.out | apply below_alloc | apply pw_below_drewN | apply below_drew1 | refine below_set ?_ GE463.out) | exact HB.out)⟩⟩
      ·rw [if_neg c17] at H
       have c17b0 : decide (1048576 < a0_1) = false := decide_eq_false c17
       clear c17
       have H' := Aside0.mk H
       clear H
       have hcz22_0 : w9.cell? ⟨gb463, 0, none⟩ = some (.int .i64 a0_0) := (blk_cell BK463.out 0).trans rfl
       have hcz22_1 : w9.cell? ⟨gb463, 1, none⟩ = some (.int .i64 a0_1) := (blk_cell BK463.out 1).trans rfl
       have hcz22_2 : w9.cell? ⟨gb463, 2, none⟩ = some (.int .i64 a0_2) := (blk_cell BK463.out 2).trans rfl
       have hfz22_0 := blk_frozen BK463.out 0
       have hfz22_1 := blk_frozen BK463.out 1
       have hfz22_2 := blk_frozen BK463.out 2
       go_wp2_with (first | ((with_reducible refine gate_callee (f := 13) rfl ?_); refine goesL_ (some 18) rfl rfl Try.func13 (by kernel_rfl) rfl #[.agg #[.int .i64 a0_0, .int .i64 a0_1, .int .i64 a0_2]] rfl (by (try simp only [List.map_toArray, List.map_cons, List.map_nil]); first | done | rfl | (simp only [List.length_drop, List.length_take]; rfl)) ?_; (with_reducible refine (leatlaw11_fit.calls k a0_0 a0_1 a0_2 true _ A10.out).mono ?_); rintro e w23 ⟨rfl, hb⟩; refine ⟨_, rfl, ?_⟩; have n0_ := Aside0.mk (blk_below (g := gb463) (o := .cells #[.int .i64 a0_0, .int .i64 a0_1, .int .i64 a0_2] 23 (0, 0)) (by (with_reducible repeat (first | refine blk_drewN ?_ _ | refine blk_drew ?_ | refine blk_alloc ?_ _)); exact BK463.out) hb); have n1_ := Aside0.mk (below_step (by repeat (first | (with_reducible first | exact HB.out | apply below_alloc | apply pw_below_drewN | apply below_drew1 | refine below_set ?_ GE463.out) | exact HB.out)) hb); clear BK463; clear HB; have BK463 := n0_; have HB := n1_; clear n0_ n1_; (try clear hb); (try clear hb2); (try clear hk); (try clear hi)) | (go_at_call 27; (with_reducible refine (agg_Is.calls a1 true _ A15.out).mono ?_); rintro e w24 ⟨rfl, hb⟩; have n0_ := Aside0.mk (blk_below (g := gb463) (o := .cells #[.int .i64 a0_0, .int .i64 a0_1, .int .i64 a0_2] 23 (0, 0)) (by (with_reducible repeat (first | refine blk_drewN ?_ _ | refine blk_drew ?_ | refine blk_alloc ?_ _)); exact BK463.out) hb); have n1_ := Aside0.mk (below_step (by repeat (first | (with_reducible first | exact HB.out | apply below_alloc | apply pw_below_drewN | apply below_drew1 | refine below_set ?_ GE463.out) | exact HB.out)) hb); clear BK463; clear HB; have BK463 := n0_; have HB := n1_; clear n0_ n1_; (try clear hb); (try clear hb2); (try clear hk); (try clear hi); have hcz25_0 : w24.cell? ⟨gb463, 0, none⟩ = some (.int .i64 a0_0) := (blk_cell BK463.out 0).trans rfl; have hcz25_1 : w24.cell? ⟨gb463, 1, none⟩ = some (.int .i64 a0_1) := (blk_cell BK463.out 1).trans rfl; have hcz25_2 : w24.cell? ⟨gb463, 2, none⟩ = some (.int .i64 a0_2) := (blk_cell BK463.out 2).trans rfl; have hfz25_0 := blk_frozen BK463.out 0; have hfz25_1 := blk_frozen BK463.out 1; have hfz25_2 := blk_frozen BK463.out 2))
       go_meet
       case rel => exact ⟨_, (decide (a0_2 > 1048576)), (by first | rfl | (simp; done) | (simp [*]; done)), H', ⟨by first | omega | exact Nat.le_refl _⟩, ⟨by (with_reducible repeat (first | refine blk_drewN ?_ _ | refine blk_drew ?_ | refine blk_alloc ?_ _)); exact BK463.out⟩, ⟨by repeat (first | (with_reducible first | exact HB.out | apply below_alloc | apply pw_below_drewN | apply below_drew1 | refine below_set ?_ GE463.out) | exact HB.out)⟩⟩
     ·replace c16 := Bool.eq_false_iff.mpr c16
      subst c16
      have H1 : (leatlaw11_WindowShift.j0 k a1 l2 a3 true a0_0 a0_1 a0_2) = some r := by rw [if_neg (show ¬ (false = true) by decide)] at H; exact H
      clear H
      have H := H1
      clear H1
      have H' := Aside0.mk H
      clear H
      have hcz26_0 : w9.cell? ⟨gb463, 0, none⟩ = some (.int .i64 a0_0) := (blk_cell BK463.out 0).trans rfl
      have hcz26_1 : w9.cell? ⟨gb463, 1, none⟩ = some (.int .i64 a0_1) := (blk_cell BK463.out 1).trans rfl
      have hcz26_2 : w9.cell? ⟨gb463, 2, none⟩ = some (.int .i64 a0_2) := (blk_cell BK463.out 2).trans rfl
      have hfz26_0 := blk_frozen BK463.out 0
      have hfz26_1 := blk_frozen BK463.out 1
      have hfz26_2 := blk_frozen BK463.out 2
      go_wp2_with (first | ((with_reducible refine gate_callee (f := 13) rfl ?_); refine goesL_ (some 18) rfl rfl Try.func13 (by kernel_rfl) rfl #[.agg #[.int .i64 a0_0, .int .i64 a0_1, .int .i64 a0_2]] rfl (by (try simp only [List.map_toArray, List.map_cons, List.map_nil]); first | done | rfl | (simp only [List.length_drop, List.length_take]; rfl)) ?_; (with_reducible refine (leatlaw11_fit.calls k a0_0 a0_1 a0_2 true _ A10.out).mono ?_); rintro e w27 ⟨rfl, hb⟩; refine ⟨_, rfl, ?_⟩; have n0_ := Aside0.mk (blk_below (g := gb463) (o := .cells #[.int .i64 a0_0, .int .i64 a0_1, .int .i64 a0_2] 23 (0, 0)) (by (with_reducible repeat (first | refine blk_drewN ?_ _ | refine blk_drew ?_ | refine blk_alloc ?_ _)); exact BK463.out) hb); have n1_ := Aside0.mk (below_step (by repeat (first | (with_reducible first | exact HB.out | apply below_alloc | apply pw_below_drewN | apply below_drew1 | refine below_set ?_ GE463.out) | exact HB.out)) hb); clear BK463; clear HB; have BK463 := n0_; have HB := n1_; clear n0_ n1_; (try clear hb); (try clear hb2); (try clear hk); (try clear hi)) | (go_at_call 27; (with_reducible refine (agg_Is.calls a1 false _ A15.out).mono ?_); rintro e w28 ⟨rfl, hb⟩; have n0_ := Aside0.mk (blk_below (g := gb463) (o := .cells #[.int .i64 a0_0, .int .i64 a0_1, .int .i64 a0_2] 23 (0, 0)) (by (with_reducible repeat (first | refine blk_drewN ?_ _ | refine blk_drew ?_ | refine blk_alloc ?_ _)); exact BK463.out) hb); have n1_ := Aside0.mk (below_step (by repeat (first | (with_reducible first | exact HB.out | apply below_alloc | apply pw_below_drewN | apply below_drew1 | refine below_set ?_ GE463.out) | exact HB.out)) hb); clear BK463; clear HB; have BK463 := n0_; have HB := n1_; clear n0_ n1_; (try clear hb); (try clear hb2); (try clear hk); (try clear hi)))
      go_meet
      case rel => exact ⟨_, (true), (by first | rfl | (simp; done) | (simp [*]; done)), H', ⟨by first | omega | exact Nat.le_refl _⟩, ⟨by (with_reducible repeat (first | refine blk_drewN ?_ _ | refine blk_drew ?_ | refine blk_alloc ?_ _)); exact BK463.out⟩, ⟨by repeat (first | (with_reducible first | exact HB.out | apply below_alloc | apply pw_below_drewN | apply below_drew1 | refine below_set ?_ GE463.out) | exact HB.out)⟩⟩
   ·replace c11 := Bool.eq_false_iff.mpr c11
    subst c11
    have H1 : (leatlaw11_WindowShift.j0 k a1 l2 a3 true a0_0 a0_1 a0_2) = some r := by rw [if_neg (show ¬ (false = true) by decide)] at H; exact H
    clear H
    have H := H1
    clear H1
    have H' := Aside0.mk H
    clear H
    have hcz29_0 : w9.cell? ⟨gb463, 0, none⟩ = some (.int .i64 a0_0) := (blk_cell BK463.out 0).trans rfl
    have hcz29_1 : w9.cell? ⟨gb463, 1, none⟩ = some (.int .i64 a0_1) := (blk_cell BK463.out 1).trans rfl
    have hcz29_2 : w9.cell? ⟨gb463, 2, none⟩ = some (.int .i64 a0_2) := (blk_cell BK463.out 2).trans rfl
    have hfz29_0 := blk_frozen BK463.out 0
    have hfz29_1 := blk_frozen BK463.out 1
    have hfz29_2 := blk_frozen BK463.out 2
    go_wp2_with (first | ((with_reducible refine gate_callee (f := 13) rfl ?_); refine goesL_ (some 18) rfl rfl Try.func13 (by kernel_rfl) rfl #[.agg #[.int .i64 a0_0, .int .i64 a0_1, .int .i64 a0_2]] rfl (by (try simp only [List.map_toArray, List.map_cons, List.map_nil]); first | done | rfl | (simp only [List.length_drop, List.length_take]; rfl)) ?_; (with_reducible refine (leatlaw11_fit.calls k a0_0 a0_1 a0_2 false _ A10.out).mono ?_); rintro e w30 ⟨rfl, hb⟩; refine ⟨_, rfl, ?_⟩; have n0_ := Aside0.mk (blk_below (g := gb463) (o := .cells #[.int .i64 a0_0, .int .i64 a0_1, .int .i64 a0_2] 23 (0, 0)) (by (with_reducible repeat (first | refine blk_drewN ?_ _ | refine blk_drew ?_ | refine blk_alloc ?_ _)); exact BK463.out) hb); have n1_ := Aside0.mk (below_step (by repeat (first | (with_reducible first | exact HB.out | apply below_alloc | apply pw_below_drewN | apply below_drew1 | refine below_set ?_ GE463.out) | exact HB.out)) hb); clear BK463; clear HB; have BK463 := n0_; have HB := n1_; clear n0_ n1_; (try clear hb); (try clear hb2); (try clear hk); (try clear hi)))
    go_meet
    case rel => exact ⟨_, (true), (by first | rfl | (simp; done) | (simp [*]; done)), H', ⟨by first | omega | exact Nat.le_refl _⟩, ⟨by (with_reducible repeat (first | refine blk_drewN ?_ _ | refine blk_drew ?_ | refine blk_alloc ?_ _)); exact BK463.out⟩, ⟨by repeat (first | (with_reducible first | exact HB.out | apply below_alloc | apply pw_below_drewN | apply below_drew1 | refine below_set ?_ GE463.out) | exact HB.out)⟩⟩
  case rest =>
   clear HC7
   try clear c1; try clear c2; try clear p2; try clear c6; try clear c8; try clear c11; try clear c12; try clear c12b0; try clear c12b1; try clear c13; try clear c16; try clear c17; try clear c17b0; try clear hcz13_0; try clear hcz13_1; try clear hcz13_2; try clear hcz18_0; try clear hcz18_1; try clear hcz18_2; try clear hcz21_0; try clear hcz21_1; try clear hcz21_2; try clear hcz22_0; try clear hcz22_1; try clear hcz22_2; try clear hcz25_0; try clear hcz25_1; try clear hcz25_2; try clear hcz26_0; try clear hcz26_1; try clear hcz26_2; try clear hcz29_0; try clear hcz29_1; try clear hcz29_2; try clear hfz13_0; try clear hfz13_1; try clear hfz13_2; try clear hfz18_0; try clear hfz18_1; try clear hfz18_2; try clear hfz21_0; try clear hfz21_1; try clear hfz21_2; try clear hfz22_0; try clear hfz22_1; try clear hfz22_2; try clear hfz25_0; try clear hfz25_1; try clear hfz25_2; try clear hfz26_0; try clear hfz26_1; try clear hfz26_2; try clear hfz29_0; try clear hfz29_1; try clear hfz29_2
   obtain ⟨kq, x39_6, rfl, HA, HJ6, BK463, HB⟩ := hcut
   cases kq with
   | zero => exact absurd HA.out (by simp [leatlaw11_WindowShift.j0])
   | succ kj6 =>
    have H := HA.out
    clear HA
    simp only [leatlaw11_WindowShift.j0] at H
    by_cases c31 : x39_6 = true
    ·subst c31
     have H1 : (some true) = some r := by rw [if_pos rfl] at H; exact H
     clear H
     have H := H1
     clear H1
     obtain rfl := Option.some.inj H
     go_wp2
     go_ret
     exact ⟨by first | rfl | (simp [errW_none, errW_some] <;> rfl) | (simp [*, errW_none, errW_some] <;> rfl), by repeat (first | (with_reducible first | exact HB.out | apply below_alloc | apply pw_below_drewN | apply below_drew1 | refine below_set ?_ GE463.out) | exact HB.out)⟩
    ·replace c31 := Bool.eq_false_iff.mpr c31
     subst c31
     have H1 : ((leathelp_Place.f a3 9).bind fun t467 => (leatlaw11_WindowShift.l0 kj6 a1 l2 (wrap64 ((wrap64 (a0_1 * (mx a0_2 1))) * (wrap64 (t467 - 4)))) ([] : List (S46)) ([] : List (S46)) 0 a0_0 a0_1 a0_2)) = some r := by rw [if_neg (show ¬ (false = true) by decide)] at H; exact H
     clear H
     have H := H1
     clear H1
     obtain ⟨ji32, hji32⟩ : ∃ j_ : Int, (mx a0_2 1) = j_ := ⟨_, rfl⟩
     replace H : ((leathelp_Place.f a3 9).bind fun t467 => (leatlaw11_WindowShift.l0 kj6 a1 l2 (wrap64 ((wrap64 (a0_1 * (ji32))) * (wrap64 (t467 - 4)))) ([] : List (S46)) ([] : List (S46)) 0 a0_0 a0_1 a0_2)) = some r := by first | (rw [hji32] at H; exact H) | (simp only [hji32] at H ⊢; exact H)
     have hji32_ : (if a0_2 < 1 then 1 else a0_2) = ji32 := hji32
     replace H := Option.bind_eq_some_iff.mp H
     obtain ⟨t467, A330, H⟩ := H
     replace H : (leatlaw11_WindowShift.l0 kj6 a1 l2 (wrap64 ((wrap64 (a0_1 * (ji32))) * (wrap64 (t467 - 4)))) ([] : List (S46)) ([] : List (S46)) 0 a0_0 a0_1 a0_2) = some r := H
     have A33 := Aside0.mk A330
     clear A330
     have H' := Aside0.mk H
     clear H
     try go_wp2
     have n0_ := Aside0.mk (blk_drew BK463.out)
     have n1_ := Aside0.mk (below_drew1 HB.out)
     clear BK463
     clear HB
     have BK463 := n0_
     have HB := n1_
     clear n0_ n1_
     refine start_ (n := 11) (S := fun w' => w'.cell? ⟨gb463, 0, none⟩ = some (.int .i64 a0_0) ∧ w'.cell? ⟨gb463, 1, none⟩ = some (.int .i64 a0_1) ∧ w'.cell? ⟨gb463, 2, none⟩ = some (.int .i64 a0_2)) (ds := []) #[false, false, false, false, false, false, false, false, false, false, false] (by kernel_rfl) rfl rfl ⟨(blk_cell BK463.out 0).trans rfl, (blk_cell BK463.out 1).trans rfl, (blk_cell BK463.out 2).trans rfl⟩ (fun hHeld => ?_); refine with_tabW leatlaw11_WindowShift.tab5 leatlaw11_WindowShift.bits5 (fun HT_ HW_ => ?_)
     generalize wc.drew = w34 at BK463 HB hHeld ⊢
     refine pure_ (i := 0) (N := some 40) (v := ?_) (a' := ?_) #[true, false, false, false, false, false, false, false, false, false, false] rfl rfl (any_of HT_.out (by kernel_rfl)) (fun _ _ _ h => h) (Or.inl ⟨by rfl, ?_⟩) ?_ ?_
     rotate_left
     ·intro w'
      go_simp
      with_reducible rfl
     rotate_left
     ·simp only [Act.put, List.setIfInBounds_toArray, List.set_cons_zero, List.set_cons_succ, i64_w, i32_w]
      rfl
     refine pure_ (i := 2) (N := some 42) (v := ?_) (a' := ?_) #[true, false, true, false, false, false, false, false, false, false, false] rfl rfl (any_of HT_.out (by kernel_rfl)) (fun _ _ _ h => h) (Or.inl ⟨by rfl, ?_⟩) ?_ ?_
     rotate_left
     ·intro w'
      go_simp
      with_reducible rfl
     rotate_left
     ·simp only [Act.put, List.setIfInBounds_toArray, List.set_cons_zero, List.set_cons_succ, i64_w, i32_w]
      rfl
     refine pure_ (i := 6) (N := some 46) (v := ?_) (a' := ?_) #[true, false, true, false, false, false, true, false, false, false, false] rfl rfl (any_of HT_.out (by kernel_rfl)) (fun _ _ _ h => h) (Or.inl ⟨by rfl, ?_⟩) ?_ ?_
     rotate_left
     ·intro w'
      go_simp
      with_reducible rfl
     rotate_left
     ·simp only [Act.put, List.setIfInBounds_toArray, List.set_cons_zero, List.set_cons_succ, i64_w, i32_w]
      rfl
     refine take_ (i := 1) (N := some 41) (v := ?_) (a' := ?_) #[true, true, true, false, false, false, true, false, false, false, false] rfl rfl (take_ofW HT_.out HW_.out (by kernel_rfl)) (fun _ _ _ h => h) (Or.inl ⟨by rfl, ?_⟩) hHeld ?_ ?_
     rotate_left
     ·rintro w' ⟨s0, s1, s2⟩
      go_simp
      with_reducible rfl
     rotate_left
     ·simp only [Act.put, List.setIfInBounds_toArray, List.set_cons_zero, List.set_cons_succ, i64_w, i32_w]
      rfl
     refine take_ (i := 3) (N := some 43) (v := ?_) (a' := ?_) #[true, true, true, true, false, false, true, false, false, false, false] rfl rfl (take_ofW HT_.out HW_.out (by kernel_rfl)) (fun _ _ _ h => h) (Or.inl ⟨by rfl, ?_⟩) hHeld ?_ ?_
     rotate_left
     ·rintro w' ⟨s0, s1, s2⟩
      go_simp
      with_reducible rfl
     rotate_left
     ·simp only [Act.put, List.setIfInBounds_toArray, List.set_cons_zero, List.set_cons_succ, i64_w, i32_w]
      rfl
     refine pure_ (i := 4) (N := some 44) (v := ?_) (a' := ?_) #[true, true, true, true, true, false, true, false, false, false, false] rfl rfl (any_of HT_.out (by kernel_rfl)) (fun _ _ _ h => h) (Or.inl ⟨by rfl, ?_⟩) ?_ ?_
     rotate_left
     ·intro w'
      go_simp
      with_reducible rfl
     rotate_left
     ·simp only [Act.put, List.setIfInBounds_toArray, List.set_cons_zero, List.set_cons_succ, i64_w, i32_w]
      rfl
     refine pure_ (i := 5) (N := some 45) (v := ?_) (a' := ?_) #[true, true, true, true, true, true, true, false, false, false, false] rfl rfl (any_of HT_.out (by kernel_rfl)) (fun _ _ _ h => h) (Or.inl ⟨by rfl, ?_⟩) ?_ ?_
     rotate_left
     ·intro w'
      go_simp
      with_reducible rfl
     rotate_left
     ·simp only [Act.put, List.setIfInBounds_toArray, List.set_cons_zero, List.set_cons_succ, i64_w, i32_w]
      rfl
     refine one_ (i := 7) (N := some 47) #[true, true, true, true, true, true, true, true, false, false, false] rfl rfl (one_of HT_.out (by kernel_rfl)) (by decide) (fun K hK => ?_)
     refine goes_ Try.func24 (by kernel_rfl) rfl #[.int .i64 a3, .int .i64 9] (by rfl) rfl rfl (by (try simp only [List.map_toArray, List.map_cons, List.map_nil]); first | done | rfl | (simp only [List.length_drop, List.length_take]; rfl)) ?_
     with_reducible refine (leathelp_Place.calls a3 9 t467 _ A33.out).mono ?_
     rintro e w' ⟨rfl, ⟨nd, rfl⟩⟩
     refine ⟨_, rfl, ?_⟩
     refine hK.out _ _ ⟨(blk_cell BK463.out 0).trans rfl, (blk_cell BK463.out 1).trans rfl, (blk_cell BK463.out 2).trans rfl⟩ (fun hHeld => ?_)
     clear hK K
     refine norm_ (a' := ?_) ?_ ?_
     rotate_left
     ·show Act.put _ (some 47) _ = _
      simp only [Act.put, List.setIfInBounds_toArray, List.set_cons_zero, List.set_cons_succ, i64_w, i32_w]
      rfl
     refine pure_ (i := 8) (N := some 48) (v := ?_) (a' := ?_) #[true, true, true, true, true, true, true, true, true, false, false] rfl rfl (any_of HT_.out (by kernel_rfl)) (fun _ _ _ h => h) (Or.inl ⟨by rfl, ?_⟩) ?_ ?_
     rotate_left
     ·intro w'
      go_simp
      with_reducible rfl
     rotate_left
     ·simp only [Act.put, List.setIfInBounds_toArray, List.set_cons_zero, List.set_cons_succ, i64_w, i32_w]
      rfl
     refine pure_ (i := 9) (N := some 49) (v := ?_) (a' := ?_) #[true, true, true, true, true, true, true, true, true, true, false] rfl rfl (any_of HT_.out (by kernel_rfl)) (fun _ _ _ h => h) (Or.inl ⟨by rfl, ?_⟩) ?_ ?_
     rotate_left
     ·intro w'
      go_simp
      with_reducible rfl
     rotate_left
     ·simp only [Act.put, List.setIfInBounds_toArray, List.set_cons_zero, List.set_cons_succ, i64_w, i32_w]
      rfl
     refine pure_ (i := 10) (N := some 9) (v := ?_) (a' := ?_) #[true, true, true, true, true, true, true, true, true, true, true] rfl rfl (any_of HT_.out (by kernel_rfl)) (fun _ _ _ h => h) (Or.inl ⟨by rfl, ?_⟩) ?_ ?_
     rotate_left
     ·intro w'
      go_simp
      with_reducible rfl
     rotate_left
     ·simp only [Act.put, List.setIfInBounds_toArray, List.set_cons_zero, List.set_cons_succ, i64_w, i32_w]
      rfl
     refine done_ (done_of HT_.out (by kernel_rfl)) ?_
     try go_wp2
     go_loopg [10, 11, 12] kj6 (fun kq v10 v11 v12 w' => ∃ (x10_2 : List (S46)) (x11_2 : List (S46)) (x12_2 : Int), v12 = .int .i64 x12_2 ∧ Aside0 (leatlaw11_WindowShift.l0 kq a1 l2 (wrap64 ((wrap64 (a0_1 * (ji32))) * (wrap64 (t467 - 4)))) x10_2 x11_2 x12_2 a0_0 a0_1 a0_2 = some r) ∧ Aside0 (kq ≤ kj6) ∧ Aside0 (Kd.R k46 46 w' w.heap.size (fun k_ => some k_ ≠ (v11 : Value).ownBlock) v10 x10_2) ∧ Aside0 (Kd.R k46 46 w' w.heap.size (fun k_ => some k_ ≠ (v10 : Value).ownBlock) v11 x11_2) ∧ Aside0 (w'.heap[gb463]? = some (.cells #[.int .i64 a0_0, .int .i64 a0_1, .int .i64 a0_2] 23 (0, 0))) ∧ Aside0 (Below w.heap.size w w'))
     case atStart => exact ⟨(([] : List (S46))), (([] : List (S46))), (0), (by first | rfl | (simp; done) | (simp [*]; done)), H', ⟨Nat.le_refl _⟩, ⟨by first | exact Kd.R_nil _ _ _ _ _ | exact Kd.N_nil _ _ _ _ _ | exact Kd.V_nil _ _ _ _ _ | exact Kd.Q_nil _ _ _ _ _ | exact Kd.S_nil _ _ _ _ _⟩, ⟨by first | exact Kd.R_nil _ _ _ _ _ | exact Kd.N_nil _ _ _ _ _ | exact Kd.V_nil _ _ _ _ _ | exact Kd.Q_nil _ _ _ _ _ | exact Kd.S_nil _ _ _ _ _⟩, ⟨by (with_reducible repeat (first | refine blk_drewN ?_ _ | refine blk_drew ?_ | refine blk_alloc ?_ _)); exact BK463.out⟩, ⟨by repeat (first | (with_reducible first | exact HB.out | apply below_alloc | apply pw_below_drewN | apply below_drew1 | refine below_set ?_ GE463.out) | exact HB.out)⟩⟩
     case round =>
      clear H'
      try clear c1; try clear c2; try clear p2; try clear c3; try clear c6; try clear p6; try clear c8; try clear c11; try clear c12; try clear c12b0; try clear c12b1; try clear c13; try clear c16; try clear c17; try clear c17b0; try clear c24; try clear c31; try clear hcz13_0; try clear hcz13_1; try clear hcz13_2; try clear hcz18_0; try clear hcz18_1; try clear hcz18_2; try clear hcz21_0; try clear hcz21_1; try clear hcz21_2; try clear hcz22_0; try clear hcz22_1; try clear hcz22_2; try clear hcz25_0; try clear hcz25_1; try clear hcz25_2; try clear hcz26_0; try clear hcz26_1; try clear hcz26_2; try clear hcz29_0; try clear hcz29_1; try clear hcz29_2; try clear hfz13_0; try clear hfz13_1; try clear hfz13_2; try clear hfz18_0; try clear hfz18_1; try clear hfz18_2; try clear hfz21_0; try clear hfz21_1; try clear hfz21_2; try clear hfz22_0; try clear hfz22_1; try clear hfz22_2; try clear hfz25_0; try clear hfz25_1; try clear hfz25_2; try clear hfz26_0; try clear hfz26_1; try clear hfz26_2; try clear hfz29_0; try clear hfz29_1; try clear hfz29_2; try clear p2
      obtain ⟨x10_2, x11_2, x12_2, rfl, HA, HK2, HO_10, HO_11, BK463, HB⟩ := hrel
      cases gk with
      | zero => exact absurd HA.out (by simp [leatlaw11_WindowShift.l0])
      | succ k2 =>
       have H := HA.out
       clear HA
       simp only [leatlaw11_WindowShift.l0] at H
       by_cases c35 : x12_2 < (l2.length : Int)
       ·rw [if_pos c35] at H
        have c35b0 : decide (x12_2 < (l2.length : Int)) = true := decide_eq_true c35
        clear c35
        have HC36 := Aside0.mk H
        clear H
        go_upto_region 10 with (fail)
        go_cut [73] (fun v73 wc => ∃ (kq : Nat) (x73_35 : Bool), v73 = .bool x73_35 ∧ Aside0 (leatlaw11_WindowShift.j2 kq a1 l2 (wrap64 ((wrap64 (a0_1 * (ji32))) * (wrap64 (t467 - 4)))) x10_2 x11_2 x12_2 x73_35 a0_0 a0_1 a0_2 = some r) ∧ Aside0 (kq ≤ k2) ∧ Aside0 (Kd.R k46 46 wc w.heap.size (fun k_ => some k_ ≠ (u11 : Value).ownBlock) u10 x10_2) ∧ Aside0 (Kd.R k46 46 wc w.heap.size (fun k_ => some k_ ≠ (u10 : Value).ownBlock) u11 x11_2) ∧ Aside0 (wc.heap[gb463]? = some (.cells #[.int .i64 a0_0, .int .i64 a0_1, .int .i64 a0_2] 23 (0, 0))) ∧ Aside0 (Below w.heap.size w wc))
        case first =>
         have H := HC36.out
         clear HC36
         by_cases c37 : 0 ≤ x12_2
         ·rw [if_pos c37] at H
          have c37b0 : decide (0 ≤ x12_2) = true := decide_eq_true c37
          clear c37
          (first | rw [c37b0] | (simp only [i64_w, i32_w]; rw [c37b0]) | skip)
          replace H := Option.bind_eq_some_iff.mp H
          obtain ⟨t469, A380, H⟩ := H
          replace H : (if t469 = true then ((leatlaw11_time.f (wrap64 (((rd_T37 l2 x12_2).f1) + (wrap64 ((wrap64 (a0_1 * (ji32))) * (wrap64 (t467 - 4))))))).bind fun t471 => (leatlaw11_WindowShift.j2 k2 a1 l2 (wrap64 ((wrap64 (a0_1 * (ji32))) * (wrap64 (t467 - 4)))) x10_2 x11_2 x12_2 (!t471) a0_0 a0_1 a0_2)) else (leatlaw11_WindowShift.j2 k2 a1 l2 (wrap64 ((wrap64 (a0_1 * (ji32))) * (wrap64 (t467 - 4)))) x10_2 x11_2 x12_2 true a0_0 a0_1 a0_2)) = some r := H
          have A38 := Aside0.mk A380
          clear A380
          by_cases c39 : t469 = true
          ·subst c39
           have H1 : ((leatlaw11_time.f (wrap64 (((rd_T37 l2 x12_2).f1) + (wrap64 ((wrap64 (a0_1 * (ji32))) * (wrap64 (t467 - 4))))))).bind fun t471 => (leatlaw11_WindowShift.j2 k2 a1 l2 (wrap64 ((wrap64 (a0_1 * (ji32))) * (wrap64 (t467 - 4)))) x10_2 x11_2 x12_2 (!t471) a0_0 a0_1 a0_2)) = some r := by rw [if_pos rfl] at H; exact H
           clear H
           have H := H1
           clear H1
           replace H := Option.bind_eq_some_iff.mp H
           obtain ⟨t471, A400, H⟩ := H
           replace H : (leatlaw11_WindowShift.j2 k2 a1 l2 (wrap64 ((wrap64 (a0_1 * (ji32))) * (wrap64 (t467 - 4)))) x10_2 x11_2 x12_2 (!t471) a0_0 a0_1 a0_2) = some r := H
           have A40 := Aside0.mk A400
           clear A400
           have H' := Aside0.mk H
           clear H
           have p468 : 0 ≤ (x12_2 : Int) := of_decide_eq_true (by first | (with_reducible assumption) | assumption)
           have q468 : x12_2 < (l2.length : Int) := of_decide_eq_true (by first | (with_reducible assumption) | assumption)
           obtain ⟨ad468, e468, hx468_0, hx468_1, hx468_2⟩ := at_T37 HR2.out x12_2 p468 q468
           cases e468
           replace hx468_0 := (HB.out.cell (World.block_lt_of_cell? w _ hx468_0)).trans hx468_0
           replace hx468_1 := (HB.out.cell (World.block_lt_of_cell? w _ hx468_1)).trans hx468_1
           replace hx468_2 := (HB.out.cell (World.block_lt_of_cell? w _ hx468_2)).trans hx468_2
           replace p468 := eq_true p468
           replace q468 := eq_true q468
           go_wp2_with (first | ((with_reducible refine gate_callee (f := 14) rfl ?_); refine goesL_ (some 61) rfl rfl Try.func14 (by kernel_rfl) rfl #[.int .i64 ((rd_T37 l2 x12_2).f1)] rfl (by (try simp only [List.map_toArray, List.map_cons, List.map_nil]); first | done | rfl | (simp only [List.length_drop, List.length_take]; rfl)) ?_; (with_reducible refine (leatlaw11_time.calls ((rd_T37 l2 x12_2).f1) true _ A38.out).mono ?_); rintro e w' ⟨rfl, ⟨nd, rfl⟩⟩; refine ⟨_, rfl, ?_⟩; have p470 : 0 ≤ (x12_2 : Int) := of_decide_eq_true (by first | (with_reducible assumption) | assumption); have q470 : x12_2 < (l2.length : Int) := of_decide_eq_true (by first | (with_reducible assumption) | assumption); obtain ⟨ad470, e470, hx470_0, hx470_1, hx470_2⟩ := at_T37 HR2.out x12_2 p470 q470; obtain rfl : ad468 = ad470 := (by injection e470); replace hx470_0 := (HB.out.cell (World.block_lt_of_cell? w _ hx470_0)).trans hx470_0; replace hx470_1 := (HB.out.cell (World.block_lt_of_cell? w _ hx470_1)).trans hx470_1; replace hx470_2 := (HB.out.cell (World.block_lt_of_cell? w _ hx470_2)).trans hx470_2; replace p470 := eq_true p470; replace q470 := eq_true q470) | (go_at_call 14; (with_reducible refine (leatlaw11_time.calls (wrap64 (((rd_T37 l2 x12_2).f1) + (wrap64 ((wrap64 (a0_1 * (ji32))) * (wrap64 (t467 - 4)))))) t471 _ A40.out).mono ?_); rintro e w' ⟨rfl, ⟨nd, rfl⟩⟩))
           go_meet
           case rel => exact ⟨_, (!t471), (by first | rfl | (simp; done) | (simp [*]; done)), H', ⟨by have := HJ6.out; have := HK2.out; first | omega | exact Nat.le_refl _⟩, ⟨by (with_reducible repeat (first | apply Kd.R_alloc | apply Kd.R_drewN | apply Kd.R_drew)); exact HO_10.out⟩, ⟨by (with_reducible repeat (first | apply Kd.R_alloc | apply Kd.R_drewN | apply Kd.R_drew)); exact HO_11.out⟩, ⟨by (with_reducible repeat (first | refine blk_drewN ?_ _ | refine blk_drew ?_ | refine blk_alloc ?_ _)); exact BK463.out⟩, ⟨by repeat (first | (with_reducible first | exact HB.out | apply below_alloc | apply pw_below_drewN | apply below_drew1 | refine below_set ?_ GE463.out) | exact HB.out)⟩⟩
          ·replace c39 := Bool.eq_false_iff.mpr c39
           subst c39
           have H1 : (leatlaw11_WindowShift.j2 k2 a1 l2 (wrap64 ((wrap64 (a0_1 * (ji32))) * (wrap64 (t467 - 4)))) x10_2 x11_2 x12_2 true a0_0 a0_1 a0_2) = some r := by rw [if_neg (show ¬ (false = true) by decide)] at H; exact H
           clear H
           have H := H1
           clear H1
           have H' := Aside0.mk H
           clear H
           have p468 : 0 ≤ (x12_2 : Int) := of_decide_eq_true (by first | (with_reducible assumption) | assumption)
           have q468 : x12_2 < (l2.length : Int) := of_decide_eq_true (by first | (with_reducible assumption) | assumption)
           obtain ⟨ad468, e468, hx468_0, hx468_1, hx468_2⟩ := at_T37 HR2.out x12_2 p468 q468
           cases e468
           replace hx468_0 := (HB.out.cell (World.block_lt_of_cell? w _ hx468_0)).trans hx468_0
           replace hx468_1 := (HB.out.cell (World.block_lt_of_cell? w _ hx468_1)).trans hx468_1
           replace hx468_2 := (HB.out.cell (World.block_lt_of_cell? w _ hx468_2)).trans hx468_2
           replace p468 := eq_true p468
           replace q468 := eq_true q468
           go_wp2_with (first | ((with_reducible refine gate_callee (f := 14) rfl ?_); refine goesL_ (some 61) rfl rfl Try.func14 (by kernel_rfl) rfl #[.int .i64 ((rd_T37 l2 x12_2).f1)] rfl (by (try simp only [List.map_toArray, List.map_cons, List.map_nil]); first | done | rfl | (simp only [List.length_drop, List.length_take]; rfl)) ?_; (with_reducible refine (leatlaw11_time.calls ((rd_T37 l2 x12_2).f1) false _ A38.out).mono ?_); rintro e w' ⟨rfl, ⟨nd, rfl⟩⟩; refine ⟨_, rfl, ?_⟩))
           go_meet
           case rel => exact ⟨_, (true), (by first | rfl | (simp; done) | (simp [*]; done)), H', ⟨by have := HJ6.out; have := HK2.out; first | omega | exact Nat.le_refl _⟩, ⟨by (with_reducible repeat (first | apply Kd.R_alloc | apply Kd.R_drewN | apply Kd.R_drew)); exact HO_10.out⟩, ⟨by (with_reducible repeat (first | apply Kd.R_alloc | apply Kd.R_drewN | apply Kd.R_drew)); exact HO_11.out⟩, ⟨by (with_reducible repeat (first | refine blk_drewN ?_ _ | refine blk_drew ?_ | refine blk_alloc ?_ _)); exact BK463.out⟩, ⟨by repeat (first | (with_reducible first | exact HB.out | apply below_alloc | apply pw_below_drewN | apply below_drew1 | refine below_set ?_ GE463.out) | exact HB.out)⟩⟩
         ·rw [if_neg c37] at H
          exact absurd H (by simp)
        case rest =>
         clear HC36
         try clear c1; try clear c2; try clear p2; try clear c3; try clear p4; try clear q4; try clear hx4; try clear c6; try clear p6; try clear c8; try clear c11; try clear c12; try clear c12b0; try clear c12b1; try clear c13; try clear c14; try clear c16; try clear c17; try clear c17b0; try clear c24; try clear c31; try clear c35; try clear c35b0; try clear c37; try clear c37b0; try clear c39; try clear hcz13_0; try clear hcz13_1; try clear hcz13_2; try clear hcz18_0; try clear hcz18_1; try clear hcz18_2; try clear hcz21_0; try clear hcz21_1; try clear hcz21_2; try clear hcz22_0; try clear hcz22_1; try clear hcz22_2; try clear hcz25_0; try clear hcz25_1; try clear hcz25_2; try clear hcz26_0; try clear hcz26_1; try clear hcz26_2; try clear hcz29_0; try clear hcz29_1; try clear hcz29_2; try clear hfz13_0; try clear hfz13_1; try clear hfz13_2; try clear hfz18_0; try clear hfz18_1; try clear hfz18_2; try clear hfz21_0; try clear hfz21_1; try clear hfz21_2; try clear hfz22_0; try clear hfz22_1; try clear hfz22_2; try clear hfz25_0; try clear hfz25_1; try clear hfz25_2; try clear hfz26_0; try clear hfz26_1; try clear hfz26_2; try clear hfz29_0; try clear hfz29_1; try clear hfz29_2; try clear hx468_0; try clear hx468_1; try clear hx468_2; try clear hx470_0; try clear hx470_1; try clear hx470_2; try clear p2; try clear p468; try clear p470; try clear p6; try clear q468; try clear q470
         obtain ⟨kq, x73_35, rfl, HA, HJ35, HO_10, HO_11, BK463, HB⟩ := hcut
         cases kq with
         | zero => exact absurd HA.out (by simp [leatlaw11_WindowShift.j2])
         | succ kj35 =>
          have H := HA.out
          clear HA
          simp only [leatlaw11_WindowShift.j2] at H
          by_cases c41 : x73_35 = true
          ·subst c41
           have H1 : (some true) = some r := by rw [if_pos rfl] at H; exact H
           clear H
           have H := H1
           clear H1
           obtain rfl := Option.some.inj H
           go_wp2
           go_ret
           exact ⟨by first | rfl | (simp [errW_none, errW_some] <;> rfl) | (simp only [← hji32]; first | rfl | (simp [errW_none, errW_some] <;> rfl)) | (simp [*, errW_none, errW_some] <;> rfl), by repeat (first | (with_reducible first | exact HB.out | apply below_alloc | apply pw_below_drewN | apply below_drew1 | refine below_set ?_ GE463.out) | exact HB.out)⟩
          ·replace c41 := Bool.eq_false_iff.mpr c41
           subst c41
           have H1 : (if 0 ≤ x12_2 then (if x12_2 < (l2.length : Int) then ((window_Put.f kj35 a0_0 a0_1 a0_2 a1 x10_2 ((rd_T37 l2 x12_2).f0) ((rd_T37 l2 x12_2).f1) ((rd_T37 l2 x12_2).f2)).bind fun t473 => ((window_Put.f kj35 a0_0 a0_1 a0_2 a1 x11_2 ((rd_T37 l2 x12_2).f0) (wrap64 (((rd_T37 l2 x12_2).f1) + (wrap64 ((wrap64 (a0_1 * (ji32))) * (wrap64 (t467 - 4)))))) ((rd_T37 l2 x12_2).f2)).bind fun t478 => (leatlaw11_WindowShift.l0 kj35 a1 l2 (wrap64 ((wrap64 (a0_1 * (ji32))) * (wrap64 (t467 - 4)))) t473 t478 (wrap64 (x12_2 + 1)) a0_0 a0_1 a0_2))) else (none)) else (none)) = some r := by rw [if_neg (show ¬ (false = true) by decide)] at H; exact H
           clear H
           have H := H1
           clear H1
           by_cases c42 : 0 ≤ x12_2
           ·rw [if_pos c42] at H
            have c42b0 : decide (0 ≤ x12_2) = true := decide_eq_true c42
            clear c42
            by_cases c43 : x12_2 < (l2.length : Int)
            ·rw [if_pos c43] at H
             have c43b0 : decide (x12_2 < (l2.length : Int)) = true := decide_eq_true c43
             clear c43
             replace H := Option.bind_eq_some_iff.mp H
             obtain ⟨t473, A440, H⟩ := H
             replace H : ((window_Put.f kj35 a0_0 a0_1 a0_2 a1 x11_2 ((rd_T37 l2 x12_2).f0) (wrap64 (((rd_T37 l2 x12_2).f1) + (wrap64 ((wrap64 (a0_1 * (ji32))) * (wrap64 (t467 - 4)))))) ((rd_T37 l2 x12_2).f2)).bind fun t478 => (leatlaw11_WindowShift.l0 kj35 a1 l2 (wrap64 ((wrap64 (a0_1 * (ji32))) * (wrap64 (t467 - 4)))) t473 t478 (wrap64 (x12_2 + 1)) a0_0 a0_1 a0_2)) = some r := H
             have A44 := Aside0.mk A440
             clear A440
             replace H := Option.bind_eq_some_iff.mp H
             obtain ⟨t478, A450, H⟩ := H
             replace H : (leatlaw11_WindowShift.l0 kj35 a1 l2 (wrap64 ((wrap64 (a0_1 * (ji32))) * (wrap64 (t467 - 4)))) t473 t478 (wrap64 (x12_2 + 1)) a0_0 a0_1 a0_2) = some r := H
             have A45 := Aside0.mk A450
             clear A450
             have H' := Aside0.mk H
             clear H
             try go_wp2
             have n0_ := Aside0.mk (Kd.R_drew HO_10.out)
             have n1_ := Aside0.mk (Kd.R_drew HO_11.out)
             have n2_ := Aside0.mk (blk_drew BK463.out)
             have n3_ := Aside0.mk (below_drew1 HB.out)
             clear HO_10
             clear HO_11
             clear BK463
             clear HB
             have HO_10 := n0_
             have HO_11 := n1_
             have BK463 := n2_
             have HB := n3_
             clear n0_ n1_ n2_ n3_
             have p472 : 0 ≤ (x12_2 : Int) := of_decide_eq_true (by first | (with_reducible assumption) | assumption)
             have q472 : x12_2 < (l2.length : Int) := of_decide_eq_true (by first | (with_reducible assumption) | assumption)
             obtain ⟨ad472, e472, hx472_0, hx472_1, hx472_2⟩ := at_T37 HR2.out x12_2 p472 q472
             have hw472_2 := hx472_2
             have hw472_1 := hx472_1
             have hw472_0 := hx472_0
             cases e472
             replace hx472_0 := (HB.out.cell (World.block_lt_of_cell? w _ hx472_0)).trans hx472_0
             replace hx472_1 := (HB.out.cell (World.block_lt_of_cell? w _ hx472_1)).trans hx472_1
             replace hx472_2 := (HB.out.cell (World.block_lt_of_cell? w _ hx472_2)).trans hx472_2
             replace p472 := eq_true p472
             replace q472 := eq_true q472
             obtain ⟨Ao47, co47, eo47⟩ := Kd.R_slice HO_10.out
             (first | subst eo47 | (injection eo47 with f1_ f2_ f3_; have f4_ := f1_.symm; have f5_ := f3_.symm; clear f1_ f2_ f3_; subst f4_; subst f5_))
             refine start_ (n := 9) (S := fun w' => w'.cell? ⟨gb463, 0, none⟩ = some (.int .i64 a0_0) ∧ w'.cell? ⟨gb463, 1, none⟩ = some (.int .i64 a0_1) ∧ w'.cell? ⟨gb463, 2, none⟩ = some (.int .i64 a0_2) ∧ w'.cell? (ad472.add ((x12_2).toNat * 3)) = some (.int .i64 ((rd_T37 l2 x12_2).f0)) ∧ w'.cell? ⟨(ad472.add ((x12_2).toNat * 3)).block, (ad472.add ((x12_2).toNat * 3)).off + 1, none⟩ = some (.int .i64 ((rd_T37 l2 x12_2).f1)) ∧ w'.cell? ⟨(ad472.add ((x12_2).toNat * 3)).block, (ad472.add ((x12_2).toNat * 3)).off + 2, none⟩ = some (.int .i64 ((rd_T37 l2 x12_2).f2))) (ds := []) #[false, false, false, false, false, false, false, false, false] (by kernel_rfl) rfl rfl ⟨(blk_cell BK463.out 0).trans rfl, (blk_cell BK463.out 1).trans rfl, (blk_cell BK463.out 2).trans rfl, ((HB.out.cell (World.block_lt_of_cell? w _ hw472_0)).trans hw472_0), ((HB.out.cell (World.block_lt_of_cell? w _ hw472_1)).trans hw472_1), ((HB.out.cell (World.block_lt_of_cell? w _ hw472_2)).trans hw472_2)⟩ (fun hHeld => ?_); refine with_tabW leatlaw11_WindowShift.tab12 leatlaw11_WindowShift.bits12 (fun HT_ HW_ => ?_)
             generalize wc.drew = w46 at HO_10 HO_11 BK463 HB hx472_0 hx472_1 hx472_2 hHeld ⊢
             refine pure_ (i := 1) (N := some 75) (v := ?_) (a' := ?_) #[false, true, false, false, false, false, false, false, false] rfl rfl (any_of HT_.out (by kernel_rfl)) (fun _ _ _ h => h) (Or.inl ⟨by rfl, ?_⟩) ?_ ?_
             rotate_left
             ·intro w'
              go_simp
              with_reducible rfl
             rotate_left
             ·simp only [Act.put, List.setIfInBounds_toArray, List.set_cons_zero, List.set_cons_succ, i64_w, i32_w]
              rfl
             refine pure_ (i := 2) (N := some 76) (v := ?_) (a' := ?_) #[false, true, true, false, false, false, false, false, false] rfl rfl (any_of HT_.out (by kernel_rfl)) (fun _ _ _ h => h) (Or.inl ⟨by rfl, ?_⟩) ?_ ?_
             rotate_left
             ·intro w'
              go_simp
              with_reducible rfl
             rotate_left
             ·simp only [Act.put, List.setIfInBounds_toArray, List.set_cons_zero, List.set_cons_succ, i64_w, i32_w]
              rfl
             refine pure_ (i := 3) (N := some 77) (v := ?_) (a' := ?_) #[false, true, true, true, false, false, false, false, false] rfl rfl (any_of HT_.out (by kernel_rfl)) (fun _ _ _ h => h) (Or.inl ⟨by rfl, ?_⟩) ?_ ?_
             rotate_left
             ·intro w'
              go_simp
              with_reducible rfl
             rotate_left
             ·simp only [Act.put, List.setIfInBounds_toArray, List.set_cons_zero, List.set_cons_succ, i64_w, i32_w]
              rfl
             refine pure_ (i := 4) (N := some 78) (v := ?_) (a' := ?_) #[false, true, true, true, true, false, false, false, false] rfl rfl (any_of HT_.out (by kernel_rfl)) (fun _ _ _ h => h) (Or.inl ⟨by rfl, ?_⟩) ?_ ?_
             rotate_left
             ·intro w'
              go_simp
              with_reducible rfl
             rotate_left
             ·simp only [Act.put, List.setIfInBounds_toArray, List.set_cons_zero, List.set_cons_succ, i64_w, i32_w]
              rfl
             refine pure_ (i := 5) (N := some 79) (v := ?_) (a' := ?_) #[false, true, true, true, true, true, false, false, false] rfl rfl (any_of HT_.out (by kernel_rfl)) (fun _ _ _ h => h) (Or.inl ⟨by rfl, ?_⟩) ?_ ?_
             rotate_left
             ·intro w'
              go_simp
              with_reducible rfl
             rotate_left
             ·simp only [Act.put, List.setIfInBounds_toArray, List.set_cons_zero, List.set_cons_succ, i64_w, i32_w]
              rfl
             refine take_ (i := 0) (N := some 74) (v := ?_) (a' := ?_) #[true, true, true, true, true, true, false, false, false] rfl rfl (take_ofW HT_.out HW_.out (by kernel_rfl)) (fun _ _ _ h => h) (Or.inl ⟨by rfl, ?_⟩) hHeld ?_ ?_
             rotate_left
             ·rintro w' ⟨s0, s1, s2, s3, s4, s5⟩
              go_simp
              with_reducible rfl
             rotate_left
             ·simp only [Act.put, List.setIfInBounds_toArray, List.set_cons_zero, List.set_cons_succ, i64_w, i32_w]
              rfl
             refine take_ (i := 6) (N := some 80) (v := ?_) (a' := ?_) #[true, true, true, true, true, true, true, false, false] rfl rfl (take_ofW HT_.out HW_.out (by kernel_rfl)) (fun _ _ _ h => h) (Or.inl ⟨by rfl, ?_⟩) hHeld ?_ ?_
             rotate_left
             ·rintro w' ⟨s0, s1, s2, s3, s4, s5⟩
              go_simp
              with_reducible rfl
             rotate_left
             ·simp only [Act.put, List.setIfInBounds_toArray, List.set_cons_zero, List.set_cons_succ, i64_w, i32_w]
              rfl
             refine one_ (i := 7) (N := some 81) #[true, true, true, true, true, true, true, true, false] rfl rfl (one_of HT_.out (by kernel_rfl)) (by decide) (fun K hK => ?_)
             refine goes_ Try.func18 (by kernel_rfl) rfl #[.agg #[.int .i64 a0_0, .int .i64 a0_1, .int .i64 a0_2], .int .i64 a1, .slice Ao47 x10_2.length co47, .agg #[.int .i64 ((rd_T37 l2 x12_2).f0), .int .i64 ((rd_T37 l2 x12_2).f1), .int .i64 ((rd_T37 l2 x12_2).f2)]] (by rfl) rfl rfl (by (try simp only [List.map_toArray, List.map_cons, List.map_nil]); first | done | rfl | (simp only [List.length_drop, List.length_take]; rfl)) ?_
             with_reducible refine (window_Put.calls kj35 a0_0 a0_1 a0_2 a1 _ _ x10_2 ((rd_T37 l2 x12_2).f0) ((rd_T37 l2 x12_2).f1) ((rd_T37 l2 x12_2).f2) t473 _ ?side1 ?side2 A44.out).mono ?_
             (case side1 => repeat (first | exact (Kd.R_reads' HO_10.out).2.2 | (with_reducible refine Kd.C_alloc ?_ _) | (with_reducible refine Kd.C_drewN ?_ _) | (with_reducible refine Kd.C_drew ?_)))
             (case side2 => exact (Kd.R_reads' HO_10.out).2.1)
             rintro e w48 ⟨v474, rfl, ho0, hb⟩
             refine ⟨_, rfl, ?_⟩
             have n0_ := Aside0.mk (Kd.R_elder' (by (with_reducible repeat (first | apply Kd.R_alloc | apply Kd.R_drewN | apply Kd.R_drew)); exact HO_10.out) (Kd.R_base ho0) hb)
             have n1_ := Aside0.mk (Kd.R_elder' (by (with_reducible repeat (first | apply Kd.R_alloc | apply Kd.R_drewN | apply Kd.R_drew)); exact HO_11.out) (Kd.R_base ho0) hb)
             have n2_ := Aside0.mk (Kd.R_lower (Kd.R_new' (Kd.R_new' ho0 (Kd.R_lt (by (with_reducible repeat (first | apply Kd.R_alloc | apply Kd.R_drewN | apply Kd.R_drew)); exact HO_10.out))) (Kd.R_lt (by (with_reducible repeat (first | apply Kd.R_alloc | apply Kd.R_drewN | apply Kd.R_drew)); exact HO_11.out))) (below_size (by repeat (first | (with_reducible first | exact HB.out | apply below_alloc | apply pw_below_drewN | apply below_drew1 | refine below_set ?_ GE463.out) | exact HB.out))))
             have n3_ := Aside0.mk (blk_below (g := gb463) (o := .cells #[.int .i64 a0_0, .int .i64 a0_1, .int .i64 a0_2] 23 (0, 0)) (by (with_reducible repeat (first | refine blk_drewN ?_ _ | refine blk_drew ?_ | refine blk_alloc ?_ _)); exact BK463.out) hb)
             have n4_ := Aside0.mk (below_step (by repeat (first | (with_reducible first | exact HB.out | apply below_alloc | apply pw_below_drewN | apply below_drew1 | refine below_set ?_ GE463.out) | exact HB.out)) hb)
             clear HO_10
             clear HO_11
             clear BK463
             clear HB
             have HO_10 := n0_
             have HO_11 := n1_
             have HO475 := n2_
             have BK463 := n3_
             have HB := n4_
             clear n0_ n1_ n2_ n3_ n4_
             (try clear hb)
             (try clear hb2)
             (try clear hk)
             (try clear hi)
             (try clear ho0)
             refine hK.out _ _ ⟨(blk_cell BK463.out 0).trans rfl, (blk_cell BK463.out 1).trans rfl, (blk_cell BK463.out 2).trans rfl, ((HB.out.cell (World.block_lt_of_cell? w _ hw472_0)).trans hw472_0), ((HB.out.cell (World.block_lt_of_cell? w _ hw472_1)).trans hw472_1), ((HB.out.cell (World.block_lt_of_cell? w _ hw472_2)).trans hw472_2)⟩ (fun hHeld => ?_)
             clear hK K
             refine norm_ (a' := ?_) ?_ ?_
             rotate_left
             ·show Act.put _ (some 81) _ = _
              simp only [Act.put, List.setIfInBounds_toArray, List.set_cons_zero, List.set_cons_succ, i64_w, i32_w]
              rfl
             refine pure_ (i := 8) (N := some 10) (v := ?_) (a' := ?_) #[true, true, true, true, true, true, true, true, true] rfl rfl (any_of HT_.out (by kernel_rfl)) (fun _ _ _ h => h) (Or.inl ⟨by rfl, ?_⟩) ?_ ?_
             rotate_left
             ·intro w'
              go_simp
              with_reducible rfl
             rotate_left
             ·simp only [Act.put, List.setIfInBounds_toArray, List.set_cons_zero, List.set_cons_succ, i64_w, i32_w]
              rfl
             refine done_ (done_of HT_.out (by kernel_rfl)) ?_
             have p476 : 0 ≤ (x12_2 : Int) := of_decide_eq_true (by first | (with_reducible assumption) | assumption)
             have q476 : x12_2 < (l2.length : Int) := of_decide_eq_true (by first | (with_reducible assumption) | assumption)
             obtain ⟨ad476, e476, hx476_0, hx476_1, hx476_2⟩ := at_T37 HR2.out x12_2 p476 q476
             obtain rfl : ad472 = ad476 := (by injection e476)
             replace hx476_0 := (HB.out.cell (World.block_lt_of_cell? w _ hx476_0)).trans hx476_0
             replace hx476_1 := (HB.out.cell (World.block_lt_of_cell? w _ hx476_1)).trans hx476_1
             replace hx476_2 := (HB.out.cell (World.block_lt_of_cell? w _ hx476_2)).trans hx476_2
             replace p476 := eq_true p476
             replace q476 := eq_true q476
             try go_wp2_with (first | ((with_reducible refine gate_dst (N := 13) rfl ?_); (try (refine gate_guard (by rfl) ?_; dsimp only)); refine box_event ?hg (N := 13) ?hd (cs := #[.int .i64 0, .int .i64 0, .int .i64 0]) (t := 37) ?hr ?_; (case hd => rfl); (case hg => rfl); (case hr => first | (go_simp; done) | (go_simp; rfl)); intro gb477 hg w49 hbox hb; have n0_ := Aside0.mk (Kd.R_below (by (with_reducible repeat (first | apply Kd.R_alloc | apply Kd.R_drewN | apply Kd.R_drew)); exact HO_10.out) hb); have n1_ := Aside0.mk (Kd.R_below (by (with_reducible repeat (first | apply Kd.R_alloc | apply Kd.R_drewN | apply Kd.R_drew)); exact HO_11.out) hb); have n2_ := Aside0.mk (Kd.R_below (by (with_reducible repeat (first | apply Kd.R_alloc | apply Kd.R_drewN | apply Kd.R_drew)); exact HO475.out) hb); have n3_ := Aside0.mk (blk_below (g := gb463) (o := .cells #[.int .i64 a0_0, .int .i64 a0_1, .int .i64 a0_2] 23 (0, 0)) (by (with_reducible repeat (first | refine blk_drewN ?_ _ | refine blk_drew ?_ | refine blk_alloc ?_ _)); exact BK463.out) hb); have n4_ := Aside0.mk (below_step (by repeat (first | (with_reducible first | exact HB.out | apply below_alloc | apply pw_below_drewN | apply below_drew1 | refine below_set ?_ GE463.out) | exact HB.out)) hb); have n5_ := Aside0.mk (hbox); have n6_ := Aside0.mk ((by rw [hg]; exact (below_size (by repeat (first | (with_reducible first | exact HB.out | apply below_alloc | apply pw_below_drewN | apply below_drew1 | refine below_set ?_ GE463.out) | exact HB.out))) : w.heap.size ≤ gb477)); have n7_ := Aside0.mk ((by rw [hg]; exact (below_size (by repeat (first | (with_reducible first | exact HB.out | apply below_alloc | apply pw_below_drewN | apply below_drew1 | refine below_set ?_ GE463.out) | exact HB.out))) : w.heap.size ≤ gb477)); have n8_ := Aside0.mk ((by rw [hg]; exact Nat.ne_of_lt (blk_lt (g := gb463) (o := .cells #[.int .i64 a0_0, .int .i64 a0_1, .int .i64 a0_2] 23 (0, 0)) (by (with_reducible repeat (first | refine blk_drewN ?_ _ | refine blk_drew ?_ | refine blk_alloc ?_ _)); exact BK463.out)) : gb463 ≠ gb477)); have n9_ := Aside0.mk ((by rw [hg]; exact Nat.ne_of_gt (blk_lt (g := gb463) (o := .cells #[.int .i64 a0_0, .int .i64 a0_1, .int .i64 a0_2] 23 (0, 0)) (by (with_reducible repeat (first | refine blk_drewN ?_ _ | refine blk_drew ?_ | refine blk_alloc ?_ _)); exact BK463.out)) : gb477 ≠ gb463)); clear HO_10; clear HO_11; clear HO475; clear BK463; clear HB; have HO_10 := n0_; have HO_11 := n1_; have HO475 := n2_; have BK463 := n3_; have HB := n4_; have BK477 := n5_; have GW477 := n6_; have GE477 := n7_; have NB463_477 := n8_; have NB477_463 := n9_; clear n0_ n1_ n2_ n3_ n4_ n5_ n6_ n7_ n8_ n9_; clear hb hbox hg; have hnb50 := NB477_463.out; have hnc50 := NB463_477.out; have hcz51_0 : w49.cell? ⟨gb477, 0, none⟩ = some (.int .i64 0) := (blk_cell BK477.out 0).trans rfl; have hcz51_1 : w49.cell? ⟨gb477, 1, none⟩ = some (.int .i64 0) := (blk_cell BK477.out 1).trans rfl; have hcz51_2 : w49.cell? ⟨gb477, 2, none⟩ = some (.int .i64 0) := (blk_cell BK477.out 2).trans rfl; have hfz51_0 := blk_frozen BK477.out 0; have hfz51_1 := blk_frozen BK477.out 1; have hfz51_2 := blk_frozen BK477.out 2; have hcz52_0 : w49.cell? ⟨gb463, 0, none⟩ = some (.int .i64 a0_0) := (blk_cell BK463.out 0).trans rfl; have hcz52_1 : w49.cell? ⟨gb463, 1, none⟩ = some (.int .i64 a0_1) := (blk_cell BK463.out 1).trans rfl; have hcz52_2 : w49.cell? ⟨gb463, 2, none⟩ = some (.int .i64 a0_2) := (blk_cell BK463.out 2).trans rfl; have hfz52_0 := blk_frozen BK463.out 0; have hfz52_1 := blk_frozen BK463.out 1; have hfz52_2 := blk_frozen BK463.out 2; obtain ⟨Ao53, co53, eo53⟩ := Kd.R_slice HO_11.out; subst eo53; have hbM : Aside0 (((((w49.setCell ⟨gb477, 0, none⟩ (.int .i64 ((rd_T37 l2 x12_2).f0))).setCell ⟨gb477, 1, none⟩ (.int .i64 ((rd_T37 l2 x12_2).f1))).setCell ⟨gb477, 2, none⟩ (.int .i64 ((rd_T37 l2 x12_2).f2))).setCell ⟨gb477, 1, none⟩ (.int .i64 (wrap64 (((rd_T37 l2 x12_2).f1) + (wrap64 ((wrap64 (a0_1 * (ji32))) * (wrap64 (t467 - 4)))))))).heap[gb477]? = some (.cells #[(.int .i64 ((rd_T37 l2 x12_2).f0)), (.int .i64 (wrap64 (((rd_T37 l2 x12_2).f1) + (wrap64 ((wrap64 (a0_1 * (ji32))) * (wrap64 (t467 - 4))))))), (.int .i64 ((rd_T37 l2 x12_2).f2))] 37 (0, 0))) := ⟨blk_put (cs := #[(.int .i64 ((rd_T37 l2 x12_2).f0)), (.int .i64 ((rd_T37 l2 x12_2).f1)), (.int .i64 ((rd_T37 l2 x12_2).f2))]) (blk_put (cs := #[(.int .i64 ((rd_T37 l2 x12_2).f0)), (.int .i64 ((rd_T37 l2 x12_2).f1)), .int .i64 0]) (blk_put (cs := #[(.int .i64 ((rd_T37 l2 x12_2).f0)), .int .i64 0, .int .i64 0]) (blk_put (cs := #[.int .i64 0, .int .i64 0, .int .i64 0]) BK477.out 0 _ rfl) 1 _ rfl) 2 _ rfl) 1 _ rfl⟩; have hfxM1 : ((((w49.setCell ⟨gb477, 0, none⟩ (.int .i64 ((rd_T37 l2 x12_2).f0))).setCell ⟨gb477, 1, none⟩ (.int .i64 ((rd_T37 l2 x12_2).f1))).setCell ⟨gb477, 2, none⟩ (.int .i64 ((rd_T37 l2 x12_2).f2))).setCell ⟨gb477, 1, none⟩ (.int .i64 (wrap64 (((rd_T37 l2 x12_2).f1) + (wrap64 ((wrap64 (a0_1 * (ji32))) * (wrap64 (t467 - 4)))))))).cell? ⟨gb477, 1, none⟩ = some (.int .i64 (wrap64 (((rd_T37 l2 x12_2).f1) + (wrap64 ((wrap64 (a0_1 * (ji32))) * (wrap64 (t467 - 4))))))) := (blk_cell hbM.out 1).trans rfl; have hfxM2 : ((((w49.setCell ⟨gb477, 0, none⟩ (.int .i64 ((rd_T37 l2 x12_2).f0))).setCell ⟨gb477, 1, none⟩ (.int .i64 ((rd_T37 l2 x12_2).f1))).setCell ⟨gb477, 2, none⟩ (.int .i64 ((rd_T37 l2 x12_2).f2))).setCell ⟨gb477, 1, none⟩ (.int .i64 (wrap64 (((rd_T37 l2 x12_2).f1) + (wrap64 ((wrap64 (a0_1 * (ji32))) * (wrap64 (t467 - 4)))))))).cell? ⟨gb477, 2, none⟩ = some (.int .i64 ((rd_T37 l2 x12_2).f2)) := (blk_cell hbM.out 2).trans rfl; have hfxM0 : ((((w49.setCell ⟨gb477, 0, none⟩ (.int .i64 ((rd_T37 l2 x12_2).f0))).setCell ⟨gb477, 1, none⟩ (.int .i64 ((rd_T37 l2 x12_2).f1))).setCell ⟨gb477, 2, none⟩ (.int .i64 ((rd_T37 l2 x12_2).f2))).setCell ⟨gb477, 1, none⟩ (.int .i64 (wrap64 (((rd_T37 l2 x12_2).f1) + (wrap64 ((wrap64 (a0_1 * (ji32))) * (wrap64 (t467 - 4)))))))).cell? ⟨gb477, 0, none⟩ = some (.int .i64 ((rd_T37 l2 x12_2).f0)) := (blk_cell hbM.out 0).trans rfl) | ((with_reducible refine gate_callee (f := 18) rfl ?_); refine goesL_ (some 95) rfl rfl Try.func18 (by kernel_rfl) rfl #[.agg #[.int .i64 a0_0, .int .i64 a0_1, .int .i64 a0_2], .int .i64 a1, .slice Ao53 x11_2.length co53, .agg #[.int .i64 ((rd_T37 l2 x12_2).f0), .int .i64 (wrap64 (((rd_T37 l2 x12_2).f1) + (wrap64 ((wrap64 (a0_1 * (ji32))) * (wrap64 (t467 - 4)))))), .int .i64 ((rd_T37 l2 x12_2).f2)]] rfl (by (try simp only [List.map_toArray, List.map_cons, List.map_nil]); first | done | (simp only [hji32]; rfl) | rfl | (simp only [List.length_drop, List.length_take]; rfl)) ?_; (with_reducible refine (window_Put.calls kj35 a0_0 a0_1 a0_2 a1 _ _ x11_2 ((rd_T37 l2 x12_2).f0) (wrap64 (((rd_T37 l2 x12_2).f1) + (wrap64 ((wrap64 (a0_1 * (ji32))) * (wrap64 (t467 - 4)))))) ((rd_T37 l2 x12_2).f2) t478 _ ?side1 ?side2 A45.out).mono ?_); (case side1 => refine (Kd.R_reads' (e := 46) (base := w.heap.size) (ok := fun k_ => (some k_ ≠ (.slice Ao47 x10_2.length co47 : Value).ownBlock ∧ some k_ ≠ (v474 : Value).ownBlock)) (n := x11_2.length) (c := co53) ?_).2.2; exact (by (with_reducible repeat (first | apply Kd.R_alloc | apply Kd.R_drewN | apply Kd.R_drew)); exact (Kd.R_mono (Kd.R_far (p := ⟨gb477, 1, none⟩) (Kd.R_far (p := ⟨gb477, 2, none⟩) (Kd.R_far (p := ⟨gb477, 1, none⟩) (Kd.R_far (p := ⟨gb477, 0, none⟩) (Kd.R_types HO_11.out BK477.out (by decide)) (fun _ hk => hk.2) (.int .i64 ((rd_T37 l2 x12_2).f0))) (fun _ hk => hk.2) (.int .i64 ((rd_T37 l2 x12_2).f1))) (fun _ hk => hk.2) (.int .i64 ((rd_T37 l2 x12_2).f2))) (fun _ hk => hk.2) (.int .i64 (wrap64 (((rd_T37 l2 x12_2).f1) + (wrap64 ((wrap64 (a0_1 * (ji32))) * (wrap64 (t467 - 4)))))))) (fun _ h_ => h_.1)))); (case side2 => exact (Kd.R_reads' HO_11.out).2.1); rintro e w54 ⟨v479, rfl, ho0, hb⟩; refine ⟨_, rfl, ?_⟩; have n0_ := Aside0.mk (Kd.R_elder' (by (with_reducible repeat (first | apply Kd.R_alloc | apply Kd.R_drewN | apply Kd.R_drew)); exact (Kd.R_mono (Kd.R_far (p := ⟨gb477, 1, none⟩) (Kd.R_far (p := ⟨gb477, 2, none⟩) (Kd.R_far (p := ⟨gb477, 1, none⟩) (Kd.R_far (p := ⟨gb477, 0, none⟩) (Kd.R_types HO_10.out BK477.out (by decide)) (fun _ hk => hk.2) (.int .i64 ((rd_T37 l2 x12_2).f0))) (fun _ hk => hk.2) (.int .i64 ((rd_T37 l2 x12_2).f1))) (fun _ hk => hk.2) (.int .i64 ((rd_T37 l2 x12_2).f2))) (fun _ hk => hk.2) (.int .i64 (wrap64 (((rd_T37 l2 x12_2).f1) + (wrap64 ((wrap64 (a0_1 * (ji32))) * (wrap64 (t467 - 4)))))))) (fun _ h_ => h_.1))) (Kd.R_base ho0) hb); have n1_ := Aside0.mk (Kd.R_elder' (by (with_reducible repeat (first | apply Kd.R_alloc | apply Kd.R_drewN | apply Kd.R_drew)); exact (Kd.R_mono (Kd.R_far (p := ⟨gb477, 1, none⟩) (Kd.R_far (p := ⟨gb477, 2, none⟩) (Kd.R_far (p := ⟨gb477, 1, none⟩) (Kd.R_far (p := ⟨gb477, 0, none⟩) (Kd.R_types HO_11.out BK477.out (by decide)) (fun _ hk => hk.2) (.int .i64 ((rd_T37 l2 x12_2).f0))) (fun _ hk => hk.2) (.int .i64 ((rd_T37 l2 x12_2).f1))) (fun _ hk => hk.2) (.int .i64 ((rd_T37 l2 x12_2).f2))) (fun _ hk => hk.2) (.int .i64 (wrap64 (((rd_T37 l2 x12_2).f1) + (wrap64 ((wrap64 (a0_1 * (ji32))) * (wrap64 (t467 - 4)))))))) (fun _ h_ => h_.1))) (Kd.R_base ho0) hb); have n2_ := Aside0.mk (Kd.R_elder' (by (with_reducible repeat (first | apply Kd.R_alloc | apply Kd.R_drewN | apply Kd.R_drew)); exact (Kd.R_mono (Kd.R_far (p := ⟨gb477, 1, none⟩) (Kd.R_far (p := ⟨gb477, 2, none⟩) (Kd.R_far (p := ⟨gb477, 1, none⟩) (Kd.R_far (p := ⟨gb477, 0, none⟩) (Kd.R_types HO475.out BK477.out (by decide)) (fun _ hk => hk.2) (.int .i64 ((rd_T37 l2 x12_2).f0))) (fun _ hk => hk.2) (.int .i64 ((rd_T37 l2 x12_2).f1))) (fun _ hk => hk.2) (.int .i64 ((rd_T37 l2 x12_2).f2))) (fun _ hk => hk.2) (.int .i64 (wrap64 (((rd_T37 l2 x12_2).f1) + (wrap64 ((wrap64 (a0_1 * (ji32))) * (wrap64 (t467 - 4)))))))) (fun _ h_ => h_.1))) (Kd.R_base ho0) hb); have n3_ := Aside0.mk (Kd.R_lower (Kd.R_new' (Kd.R_new' (Kd.R_new' ho0 (Kd.R_lt (by (with_reducible repeat (first | apply Kd.R_alloc | apply Kd.R_drewN | apply Kd.R_drew)); exact (Kd.R_mono (Kd.R_far (p := ⟨gb477, 1, none⟩) (Kd.R_far (p := ⟨gb477, 2, none⟩) (Kd.R_far (p := ⟨gb477, 1, none⟩) (Kd.R_far (p := ⟨gb477, 0, none⟩) (Kd.R_types HO_10.out BK477.out (by decide)) (fun _ hk => hk.2) (.int .i64 ((rd_T37 l2 x12_2).f0))) (fun _ hk => hk.2) (.int .i64 ((rd_T37 l2 x12_2).f1))) (fun _ hk => hk.2) (.int .i64 ((rd_T37 l2 x12_2).f2))) (fun _ hk => hk.2) (.int .i64 (wrap64 (((rd_T37 l2 x12_2).f1) + (wrap64 ((wrap64 (a0_1 * (ji32))) * (wrap64 (t467 - 4)))))))) (fun _ h_ => h_.1))))) (Kd.R_lt (by (with_reducible repeat (first | apply Kd.R_alloc | apply Kd.R_drewN | apply Kd.R_drew)); exact (Kd.R_mono (Kd.R_far (p := ⟨gb477, 1, none⟩) (Kd.R_far (p := ⟨gb477, 2, none⟩) (Kd.R_far (p := ⟨gb477, 1, none⟩) (Kd.R_far (p := ⟨gb477, 0, none⟩) (Kd.R_types HO_11.out BK477.out (by decide)) (fun _ hk => hk.2) (.int .i64 ((rd_T37 l2 x12_2).f0))) (fun _ hk => hk.2) (.int .i64 ((rd_T37 l2 x12_2).f1))) (fun _ hk => hk.2) (.int .i64 ((rd_T37 l2 x12_2).f2))) (fun _ hk => hk.2) (.int .i64 (wrap64 (((rd_T37 l2 x12_2).f1) + (wrap64 ((wrap64 (a0_1 * (ji32))) * (wrap64 (t467 - 4)))))))) (fun _ h_ => h_.1))))) (Kd.R_lt (by (with_reducible repeat (first | apply Kd.R_alloc | apply Kd.R_drewN | apply Kd.R_drew)); exact (Kd.R_mono (Kd.R_far (p := ⟨gb477, 1, none⟩) (Kd.R_far (p := ⟨gb477, 2, none⟩) (Kd.R_far (p := ⟨gb477, 1, none⟩) (Kd.R_far (p := ⟨gb477, 0, none⟩) (Kd.R_types HO475.out BK477.out (by decide)) (fun _ hk => hk.2) (.int .i64 ((rd_T37 l2 x12_2).f0))) (fun _ hk => hk.2) (.int .i64 ((rd_T37 l2 x12_2).f1))) (fun _ hk => hk.2) (.int .i64 ((rd_T37 l2 x12_2).f2))) (fun _ hk => hk.2) (.int .i64 (wrap64 (((rd_T37 l2 x12_2).f1) + (wrap64 ((wrap64 (a0_1 * (ji32))) * (wrap64 (t467 - 4)))))))) (fun _ h_ => h_.1))))) (below_size (by repeat (first | (with_reducible first | exact HB.out | apply below_alloc | apply pw_below_drewN | apply below_drew1 | refine below_set ?_ GE463.out | refine below_set ?_ GE477.out) | exact HB.out)))); have n4_ := Aside0.mk (blk_below (g := gb463) (o := .cells #[.int .i64 a0_0, .int .i64 a0_1, .int .i64 a0_2] 23 (0, 0)) (by (with_reducible repeat (first | refine blk_drewN ?_ _ | refine blk_drew ?_ | refine blk_alloc ?_ _)); refine blk_far ?_ NB463_477.out _; (with_reducible repeat (first | refine blk_drewN ?_ _ | refine blk_drew ?_ | refine blk_alloc ?_ _)); refine blk_far ?_ NB463_477.out _; (with_reducible repeat (first | refine blk_drewN ?_ _ | refine blk_drew ?_ | refine blk_alloc ?_ _)); refine blk_far ?_ NB463_477.out _; (with_reducible repeat (first | refine blk_drewN ?_ _ | refine blk_drew ?_ | refine blk_alloc ?_ _)); refine blk_far ?_ NB463_477.out _; (with_reducible repeat (first | refine blk_drewN ?_ _ | refine blk_drew ?_ | refine blk_alloc ?_ _)); exact BK463.out) hb); have n5_ := Aside0.mk (blk_below (g := gb477) (o := .cells #[.int .i64 ((rd_T37 l2 x12_2).f0), .int .i64 (wrap64 (((rd_T37 l2 x12_2).f1) + (wrap64 ((wrap64 (a0_1 * (ji32))) * (wrap64 (t467 - 4)))))), .int .i64 ((rd_T37 l2 x12_2).f2)] 37 (0, 0)) (by (with_reducible repeat (first | refine blk_drewN ?_ _ | refine blk_drew ?_ | refine blk_alloc ?_ _)); refine blk_put (cs := #[.int .i64 ((rd_T37 l2 x12_2).f0), .int .i64 ((rd_T37 l2 x12_2).f1), .int .i64 ((rd_T37 l2 x12_2).f2)]) ?_ 1 _ rfl; (with_reducible repeat (first | refine blk_drewN ?_ _ | refine blk_drew ?_ | refine blk_alloc ?_ _)); refine blk_put (cs := #[.int .i64 ((rd_T37 l2 x12_2).f0), .int .i64 ((rd_T37 l2 x12_2).f1), .int .i64 0]) ?_ 2 _ rfl; (with_reducible repeat (first | refine blk_drewN ?_ _ | refine blk_drew ?_ | refine blk_alloc ?_ _)); refine blk_put (cs := #[.int .i64 ((rd_T37 l2 x12_2).f0), .int .i64 0, .int .i64 0]) ?_ 1 _ rfl; (with_reducible repeat (first | refine blk_drewN ?_ _ | refine blk_drew ?_ | refine blk_alloc ?_ _)); refine blk_put (cs := #[.int .i64 0, .int .i64 0, .int .i64 0]) ?_ 0 _ rfl; (with_reducible repeat (first | refine blk_drewN ?_ _ | refine blk_drew ?_ | refine blk_alloc ?_ _)); exact BK477.out) hb); have n6_ := Aside0.mk (below_step (by repeat (first | (with_reducible first | exact HB.out | apply below_alloc | apply pw_below_drewN | apply below_drew1 | refine below_set ?_ GE463.out | refine below_set ?_ GE477.out) | exact HB.out)) hb); clear HO_10; clear HO_11; clear HO475; clear BK463; clear BK477; clear HB; have HO_10 := n0_; have HO_11 := n1_; have HO475 := n2_; have HO480 := n3_; have BK463 := n4_; have BK477 := n5_; have HB := n6_; clear n0_ n1_ n2_ n3_ n4_ n5_ n6_; (try clear hb); (try clear hb2); (try clear hk); (try clear hi); (try clear ho0)))
             go_roundg kj35
             case measure => have := HJ6.out; have := HK2.out; have := HJ35.out; omega
             case rel => exact ⟨(t473), (t478), (wrap64 (x12_2 + 1)), (by first | rfl | (simp; done) | (simp [*]; done)), H', ⟨by have := HJ6.out; have := HK2.out; have := HJ35.out; omega⟩, ⟨by (with_reducible repeat (first | apply Kd.R_alloc | apply Kd.R_drewN | apply Kd.R_drew)); exact Kd.R_mono HO475.out (fun _ hk => hk.2)⟩, ⟨by (with_reducible repeat (first | apply Kd.R_alloc | apply Kd.R_drewN | apply Kd.R_drew)); exact Kd.R_mono HO480.out (fun _ hk => hk.2)⟩, ⟨by (with_reducible repeat (first | refine blk_drewN ?_ _ | refine blk_drew ?_ | refine blk_alloc ?_ _)); exact BK463.out⟩, ⟨by repeat (first | (with_reducible first | exact HB.out | apply below_alloc | apply pw_below_drewN | apply below_drew1 | refine below_set ?_ GE463.out | refine below_set ?_ GE477.out) | exact HB.out)⟩⟩
            ·rw [if_neg c43] at H
             exact absurd H (by simp)
           ·rw [if_neg c42] at H
            exact absurd H (by simp)
       ·rw [if_neg c35] at H
        have c35b0 : decide (x12_2 < (l2.length : Int)) = false := decide_eq_false c35
        clear c35
        by_cases c55 : (x10_2.length : Int) = (x11_2.length : Int)
        ·rw [if_pos c55] at H
         have c55b0 : ((x10_2.length : Int) == (x11_2.length : Int)) = true := beq_iff_eq.mpr c55
         have c55b1 : ((x10_2.length : Int) != (x11_2.length : Int)) = false := bne_eq_false_iff_eq.mpr c55
         have c55b2 : (x10_2.length == x11_2.length) = true := by first | simpa using c55 | (simp at c55 ⊢; omega)
         clear c55
         have H' := Aside0.mk H
         clear H
         obtain ⟨Ao56, co56, eo56⟩ := Kd.R_slice HO_10.out
         subst eo56
         obtain ⟨Ao57, co57, eo57⟩ := Kd.R_slice HO_11.out
         subst eo57
         go_wp2
         go_loopg [14] k2 (fun kq v14 w' => ∃ (x11_3 : List (S46)) (x14_3 : Int), v14 = .int .i64 x14_3 ∧ Aside0 (leatlaw11_WindowShift.l1 kq (wrap64 ((wrap64 (a0_1 * (ji32))) * (wrap64 (t467 - 4)))) x10_2 x11_3 x14_3 = some r) ∧ Aside0 (kq ≤ k2) ∧ Aside0 (Kd.R k46 46 w' w.heap.size (fun k_ => some k_ ≠ ((.slice Ao57 x11_2.length co57) : Value).ownBlock) (.slice Ao56 x10_2.length co56) x10_2) ∧ Aside0 (Kd.R k46 46 w' w.heap.size (fun k_ => some k_ ≠ ((.slice Ao56 x10_2.length co56) : Value).ownBlock) (.slice Ao57 x11_2.length co57) x11_3) ∧ Aside0 (w'.heap[gb463]? = some (.cells #[.int .i64 a0_0, .int .i64 a0_1, .int .i64 a0_2] 23 (0, 0))) ∧ Aside0 (Below w.heap.size w w'))
         case atStart => exact ⟨(x11_2), (0), (by first | rfl | (simp; done) | (simp [*]; done)), H', ⟨Nat.le_refl _⟩, ⟨by (with_reducible repeat (first | apply Kd.R_alloc | apply Kd.R_drewN | apply Kd.R_drew)); exact HO_10.out⟩, ⟨by (with_reducible repeat (first | apply Kd.R_alloc | apply Kd.R_drewN | apply Kd.R_drew)); exact HO_11.out⟩, ⟨by (with_reducible repeat (first | refine blk_drewN ?_ _ | refine blk_drew ?_ | refine blk_alloc ?_ _)); exact BK463.out⟩, ⟨by repeat (first | (with_reducible first | exact HB.out | apply below_alloc | apply pw_below_drewN | apply below_drew1 | refine below_set ?_ GE463.out) | exact HB.out)⟩⟩
         case round =>
          clear H'
          try clear c1; try clear c2; try clear p2; try clear c3; try clear c4; try clear p4; try clear q4; try clear hx4; try clear c5; try clear c6; try clear p6; try clear c8; try clear c11; try clear c12; try clear c12b0; try clear c12b1; try clear c13; try clear c14; try clear c16; try clear c17; try clear c17b0; try clear c18; try clear c24; try clear c31; try clear c35; try clear c35b0; try clear c37; try clear c37b0; try clear c39; try clear c41; try clear c42; try clear c42b0; try clear c43; try clear c43b0; try clear p46; try clear q46; try clear hx46; try clear p47; try clear q47; try clear hx47; try clear c50; try clear c55; try clear c55b0; try clear c55b1; try clear c55b2; try clear hcz13_0; try clear hcz13_1; try clear hcz13_2; try clear hcz18_0; try clear hcz18_1; try clear hcz18_2; try clear hcz21_0; try clear hcz21_1; try clear hcz21_2; try clear hcz22_0; try clear hcz22_1; try clear hcz22_2; try clear hcz25_0; try clear hcz25_1; try clear hcz25_2; try clear hcz26_0; try clear hcz26_1; try clear hcz26_2; try clear hcz29_0; try clear hcz29_1; try clear hcz29_2; try clear hcz51_0; try clear hcz51_1; try clear hcz51_2; try clear hcz52_0; try clear hcz52_1; try clear hcz52_2; try clear hfz13_0; try clear hfz13_1; try clear hfz13_2; try clear hfz18_0; try clear hfz18_1; try clear hfz18_2; try clear hfz21_0; try clear hfz21_1; try clear hfz21_2; try clear hfz22_0; try clear hfz22_1; try clear hfz22_2; try clear hfz25_0; try clear hfz25_1; try clear hfz25_2; try clear hfz26_0; try clear hfz26_1; try clear hfz26_2; try clear hfz29_0; try clear hfz29_1; try clear hfz29_2; try clear hfz51_0; try clear hfz51_1; try clear hfz51_2; try clear hfz52_0; try clear hfz52_1; try clear hfz52_2; try clear hx468_0; try clear hx468_1; try clear hx468_2; try clear hx470_0; try clear hx470_1; try clear hx470_2; try clear hx472_0; try clear hx472_1; try clear hx472_2; try clear hx476_0; try clear hx476_1; try clear hx476_2; try clear p2; try clear p4; try clear p468; try clear p470; try clear p472; try clear p476; try clear p6; try clear q4; try clear q468; try clear q470; try clear q472; try clear q476
          obtain ⟨x11_3, x14_3, rfl, HA, HK3, HO_10, HO_11, BK463, HB⟩ := hrel
          have hl11_3 := (Kd.R_reads' HO_11.out).1
          rw [hl11_3] at HO_11
          (try simp only [hl11_3])
          (try simp only [hl11_3] at BK463)
          (try simp only [hl11_3] at HO_10)
          cases gk with
          | zero => exact absurd HA.out (by simp [leatlaw11_WindowShift.l1])
          | succ k3 =>
           have H := HA.out
           clear HA
           simp only [leatlaw11_WindowShift.l1] at H
           by_cases c58 : x14_3 < (x11_3.length : Int)
           ·rw [if_pos c58] at H
            have c58b0 : decide (x14_3 < (x11_3.length : Int)) = true := decide_eq_true c58
            clear c58
            by_cases c59 : 0 ≤ x14_3
            ·rw [if_pos c59] at H
             have c59b0 : decide (0 ≤ x14_3) = true := decide_eq_true c59
             clear c59
             obtain ⟨y483, hy483⟩ : ∃ y_ : List (S46), y_ = (x11_3.set (x14_3 : Int).toNat (⟨(rd_T46 x11_3 x14_3).f0, (⟨wrap64 (((rd_T46 x11_3 x14_3).f1.f0) - (wrap64 ((wrap64 (a0_1 * (ji32))) * (wrap64 (t467 - 4))))), wrap64 (((rd_T46 x11_3 x14_3).f1.f1) - (wrap64 ((wrap64 (a0_1 * (ji32))) * (wrap64 (t467 - 4)))))⟩ : S31), (rd_T46 x11_3 x14_3).f2⟩ : S46)) := ⟨_, rfl⟩
             replace H : (leatlaw11_WindowShift.l1 k3 (wrap64 ((wrap64 (a0_1 * (ji32))) * (wrap64 (t467 - 4)))) x10_2 y483 (wrap64 (x14_3 + 1))) = some r := by first | (rw [hy483]; with_reducible exact H) | (have H2_ := (Option.bind_some _ _).symm.trans H; rw [hy483]; with_reducible exact H2_) | (have H2_ := (Option.bind_some _ _).symm.trans H; with_reducible exact H2_) | with_reducible exact H | (rw [hy483]; exact H) | exact H
             have Ny483 := Aside0.mk hy483
             clear hy483
             have H' := Aside0.mk H
             clear H
             try go_wp2
             have n0_ := Aside0.mk (Kd.R_drew HO_10.out)
             have n1_ := Aside0.mk (Kd.R_drew HO_11.out)
             have n2_ := Aside0.mk (blk_drew BK463.out)
             have n3_ := Aside0.mk (below_drew1 HB.out)
             clear HO_10
             clear HO_11
             clear BK463
             clear HB
             have HO_10 := n0_
             have HO_11 := n1_
             have BK463 := n2_
             have HB := n3_
             clear n0_ n1_ n2_ n3_
             have p481 : 0 ≤ (x14_3 : Int) := of_decide_eq_true (by first | (with_reducible assumption) | assumption)
             have q481 : x14_3 < (x11_3.length : Int) := of_decide_eq_true (by first | (with_reducible assumption) | assumption)
             obtain ⟨ad481, e481, hx481_0, hx481_1, hx481_2, hx481_3⟩ := at_T46 (Kd.R_reads' HO_11.out).2.2 x14_3 p481 q481
             cases e481
             replace p481 := eq_true p481
             replace q481 := eq_true q481
             have p482 : 0 ≤ (x14_3 : Int) := of_decide_eq_true (by first | (with_reducible assumption) | assumption)
             have q482 : x14_3 < (x11_3.length : Int) := of_decide_eq_true (by first | (with_reducible assumption) | assumption)
             obtain ⟨ad482, e482, hx482_0, hx482_1, hx482_2, hx482_3⟩ := at_T46 (Kd.R_reads' HO_11.out).2.2 x14_3 p482 q482
             obtain rfl : ad481 = ad482 := (by injection e482)
             replace p482 := eq_true p482
             replace q482 := eq_true q482
             have p60 : 0 ≤ (x14_3 : Int) := of_decide_eq_true (by first | (with_reducible assumption) | assumption)
             have q60 : (x14_3 : Int) < ((x11_3.length : Int) : Int) := of_decide_eq_true (by first | (with_reducible assumption) | assumption)
             obtain ⟨go60, co60, eo60, gb60, gl60, cl60, HG60⟩ := Kd.R_form HO_11.out (by omega)
             (first | cases eo60 | (injection eo60 with ea_ en_ ec_; (first | subst ea_ | (injection ea_ with ea_; subst ea_)); subst ec_; clear en_))
             have GB60 := Aside0.mk gb60
             have GG60 := Aside0.mk HG60
             clear gb60 gl60 HG60
             (first | simp only [add_plain] at hx481_0 | skip)
             (first | simp only [add_plain] at hx481_1 | skip)
             (first | simp only [add_plain] at hx481_2 | skip)
             (first | simp only [add_plain] at hx481_3 | skip)
             (first | simp only [add_plain] at hx482_0 | skip)
             (first | simp only [add_plain] at hx482_1 | skip)
             (first | simp only [add_plain] at hx482_2 | skip)
             (first | simp only [add_plain] at hx482_3 | skip)
             obtain ⟨ce60, hcl60, hM60, hcc60, hfr60⟩ := Kd.R_elem HO_11.out z46 (x14_3 : Int) p60 q60
             obtain rfl := k46_openM hM60
             have hx60_0 : World.cell? _ ⟨go60, (x14_3 : Int).toNat * 4, none⟩ = some (.int .i64 ((rd_T46 x11_3 x14_3).f0)) := hcc60 0 _ rfl
             have hx60_1 : World.cell? _ ⟨go60, (x14_3 : Int).toNat * 4 + 1, none⟩ = some (.int .i64 ((rd_T46 x11_3 x14_3).f1.f0)) := hcc60 1 _ rfl
             have hx60_2 : World.cell? _ ⟨go60, (x14_3 : Int).toNat * 4 + 2, none⟩ = some (.int .i64 ((rd_T46 x11_3 x14_3).f1.f1)) := hcc60 2 _ rfl
             have hx60_3 : World.cell? _ ⟨go60, (x14_3 : Int).toNat * 4 + 3, none⟩ = some (.int .i64 ((rd_T46 x11_3 x14_3).f2)) := hcc60 3 _ rfl
             have hf60_0 : World.frozen? _ ⟨go60, (x14_3 : Int).toNat * 4, none⟩ = false := hfr60 0
             have hf60_1 : World.frozen? _ ⟨go60, (x14_3 : Int).toNat * 4 + 1, none⟩ = false := hfr60 1
             have hf60_2 : World.frozen? _ ⟨go60, (x14_3 : Int).toNat * 4 + 2, none⟩ = false := hfr60 2
             have hf60_3 : World.frozen? _ ⟨go60, (x14_3 : Int).toNat * 4 + 3, none⟩ = false := hfr60 3
             clear hcl60 hcc60 hfr60 hM60
             replace p60 := eq_true p60
             replace q60 := eq_true q60
             obtain ⟨ce62, hcl62, hM62, hcc62, hfr62⟩ := Kd.R_elem HO_11.out z46 (x14_3 : Int) (of_decide_eq_true (by first | (with_reducible assumption) | assumption)) (by have h_ : (x14_3 : Int) < ((x11_3.length : Int) : Int) := of_decide_eq_true (by first | (with_reducible assumption) | assumption); first | exact h_ | (have e_ := (Kd.R_reads' HO_11.out).1; omega) | simpa using h_)
             obtain rfl := k46_openM hM62
             have HP62 := (Kd.R_seg HO_11.out (x14_3 : Int) (of_decide_eq_true (by first | (with_reducible assumption) | assumption)) (by have h_ : (x14_3 : Int) < ((x11_3.length : Int) : Int) := of_decide_eq_true (by first | (with_reducible assumption) | assumption); first | exact h_ | (have e_ := (Kd.R_reads' HO_11.out).1; omega) | simpa using h_) (seg := [.int .i64 (wrap64 (((rd_T46 x11_3 x14_3).f1.f0) - (wrap64 ((wrap64 (a0_1 * (ji32))) * (wrap64 (t467 - 4)))))), .int .i64 (wrap64 (((rd_T46 x11_3 x14_3).f1.f1) - (wrap64 ((wrap64 (a0_1 * (ji32))) * (wrap64 (t467 - 4))))))]) (j := 1) hcl62 hcc62 (show 3 ≤ 4 from by decide) (x' := (⟨(rd_T46 x11_3 x14_3).f0, (⟨wrap64 (((rd_T46 x11_3 x14_3).f1.f0) - (wrap64 ((wrap64 (a0_1 * (ji32))) * (wrap64 (t467 - 4))))), wrap64 (((rd_T46 x11_3 x14_3).f1.f1) - (wrap64 ((wrap64 (a0_1 * (ji32))) * (wrap64 (t467 - 4)))))⟩ : S31), (rd_T46 x11_3 x14_3).f2⟩ : S46)) (k46_mkM _ _ _ (⟨(rd_T46 x11_3 x14_3).f0, (⟨wrap64 (((rd_T46 x11_3 x14_3).f1.f0) - (wrap64 ((wrap64 (a0_1 * (ji32))) * (wrap64 (t467 - 4))))), wrap64 (((rd_T46 x11_3 x14_3).f1.f1) - (wrap64 ((wrap64 (a0_1 * (ji32))) * (wrap64 (t467 - 4)))))⟩ : S31), (rd_T46 x11_3 x14_3).f2⟩ : S46) ) (fun _ hk => hk)).1
             rw [← Ny483.out] at HP62
             have HQ62 := Aside0.mk HP62
             clear hcl62 hcc62 hfr62 hM62 HP62
             refine start_ (n := 22) (S := fun w' => w'.cell? ⟨go60, ((x14_3).toNat * 4), none⟩ = some (.int .i64 ((rd_T46 x11_3 x14_3).f0)) ∧ w'.cell? ⟨go60, ((x14_3).toNat * 4) + 1, none⟩ = some (.int .i64 ((rd_T46 x11_3 x14_3).f1.f0)) ∧ w'.cell? ⟨go60, ((x14_3).toNat * 4) + 2, none⟩ = some (.int .i64 ((rd_T46 x11_3 x14_3).f1.f1)) ∧ w'.cell? ⟨go60, ((x14_3).toNat * 4) + 3, none⟩ = some (.int .i64 ((rd_T46 x11_3 x14_3).f2)) ∧ w'.cell? ⟨go60, ((x14_3).toNat * 4), none⟩ = some (.int .i64 ((rd_T46 x11_3 x14_3).f0)) ∧ w'.cell? ⟨go60, ((x14_3).toNat * 4) + 1, none⟩ = some (.int .i64 ((rd_T46 x11_3 x14_3).f1.f0)) ∧ w'.cell? ⟨go60, ((x14_3).toNat * 4) + 2, none⟩ = some (.int .i64 ((rd_T46 x11_3 x14_3).f1.f1)) ∧ w'.cell? ⟨go60, ((x14_3).toNat * 4) + 3, none⟩ = some (.int .i64 ((rd_T46 x11_3 x14_3).f2))) (ds := [21]) #[false, false, false, false, false, false, false, false, false, false, false, false, false, false, false, false, false, false, false, false, false, false] (by kernel_rfl) rfl rfl ⟨hx481_0, hx481_1, hx481_2, hx481_3, hx482_0, hx482_1, hx482_2, hx482_3⟩ (fun hHeld => ?_); refine with_tabW leatlaw11_WindowShift.tab21 leatlaw11_WindowShift.bits21 (fun HT_ HW_ => ?_)
             generalize wr.drew = w61 at HO_10 HO_11 BK463 HB GG60 HQ62 hf60_0 hf60_1 hf60_2 hf60_3 hx481_0 hx481_1 hx481_2 hx481_3 hx482_0 hx482_1 hx482_2 hx482_3 hx60_0 hx60_1 hx60_2 hx60_3 hHeld ⊢
             refine pure_ (i := 0) (N := some 107) (v := ?_) (a' := ?_) #[true, false, false, false, false, false, false, false, false, false, false, false, false, false, false, false, false, false, false, false, false, false] rfl rfl (any_of HT_.out (by kernel_rfl)) (fun _ _ _ h => h) (Or.inl ⟨by rfl, ?_⟩) ?_ ?_
             rotate_left
             ·intro w'
              go_simp
              with_reducible rfl
             rotate_left
             ·simp only [Act.put, List.setIfInBounds_toArray, List.set_cons_zero, List.set_cons_succ, i64_w, i32_w]
              rfl
             refine pure_ (i := 1) (N := some 108) (v := ?_) (a' := ?_) #[true, true, false, false, false, false, false, false, false, false, false, false, false, false, false, false, false, false, false, false, false, false] rfl rfl (any_of HT_.out (by kernel_rfl)) (fun _ _ _ h => h) (Or.inl ⟨by rfl, ?_⟩) ?_ ?_
             rotate_left
             ·intro w'
              go_simp
              with_reducible rfl
             rotate_left
             ·simp only [Act.put, List.setIfInBounds_toArray, List.set_cons_zero, List.set_cons_succ, i64_w, i32_w]
              rfl
             refine pure_ (i := 2) (N := some 109) (v := ?_) (a' := ?_) #[true, true, true, false, false, false, false, false, false, false, false, false, false, false, false, false, false, false, false, false, false, false] rfl rfl (any_of HT_.out (by kernel_rfl)) (fun _ _ _ h => h) (Or.inl ⟨by rfl, ?_⟩) ?_ ?_
             rotate_left
             ·intro w'
              go_simp
              with_reducible rfl
             rotate_left
             ·simp only [Act.put, List.setIfInBounds_toArray, List.set_cons_zero, List.set_cons_succ, i64_w, i32_w]
              rfl
             refine pure_ (i := 3) (N := some 110) (v := ?_) (a' := ?_) #[true, true, true, true, false, false, false, false, false, false, false, false, false, false, false, false, false, false, false, false, false, false] rfl rfl (any_of HT_.out (by kernel_rfl)) (fun _ _ _ h => h) (Or.inl ⟨by rfl, ?_⟩) ?_ ?_
             rotate_left
             ·intro w'
              go_simp
              with_reducible rfl
             rotate_left
             ·simp only [Act.put, List.setIfInBounds_toArray, List.set_cons_zero, List.set_cons_succ, i64_w, i32_w]
              rfl
             refine pure_ (i := 4) (N := some 111) (v := ?_) (a' := ?_) #[true, true, true, true, true, false, false, false, false, false, false, false, false, false, false, false, false, false, false, false, false, false] rfl rfl (any_of HT_.out (by kernel_rfl)) (fun _ _ _ h => h) (Or.inl ⟨by rfl, ?_⟩) ?_ ?_
             rotate_left
             ·intro w'
              go_simp
              with_reducible rfl
             rotate_left
             ·simp only [Act.put, List.setIfInBounds_toArray, List.set_cons_zero, List.set_cons_succ, i64_w, i32_w]
              rfl
             refine pure_ (i := 5) (N := some 112) (v := ?_) (a' := ?_) #[true, true, true, true, true, true, false, false, false, false, false, false, false, false, false, false, false, false, false, false, false, false] rfl rfl (any_of HT_.out (by kernel_rfl)) (fun _ _ _ h => h) (Or.inl ⟨by rfl, ?_⟩) ?_ ?_
             rotate_left
             ·intro w'
              go_simp
              with_reducible rfl
             rotate_left
             ·simp only [Act.put, List.setIfInBounds_toArray, List.set_cons_zero, List.set_cons_succ, i64_w, i32_w]
              rfl
             refine pure_ (i := 6) (N := some 113) (v := ?_) (a' := ?_) #[true, true, true, true, true, true, true, false, false, false, false, false, false, false, false, false, false, false, false, false, false, false] rfl rfl (any_of HT_.out (by kernel_rfl)) (fun _ _ _ h => h) (Or.inl ⟨by rfl, ?_⟩) ?_ ?_
             rotate_left
             ·intro w'
              go_simp
              with_reducible rfl
             rotate_left
             ·simp only [Act.put, List.setIfInBounds_toArray, List.set_cons_zero, List.set_cons_succ, i64_w, i32_w]
              rfl
             refine pure_ (i := 8) (N := some 115) (v := ?_) (a' := ?_) #[true, true, true, true, true, true, true, false, true, false, false, false, false, false, false, false, false, false, false, false, false, false] rfl rfl (any_of HT_.out (by kernel_rfl)) (fun _ _ _ h => h) (Or.inl ⟨by rfl, ?_⟩) ?_ ?_
             rotate_left
             ·intro w'
              go_simp
              with_reducible rfl
             rotate_left
             ·simp only [Act.put, List.setIfInBounds_toArray, List.set_cons_zero, List.set_cons_succ, i64_w, i32_w]
              rfl
             refine pure_ (i := 10) (N := some 117) (v := ?_) (a' := ?_) #[true, true, true, true, true, true, true, false, true, false, true, false, false, false, false, false, false, false, false, false, false, false] rfl rfl (any_of HT_.out (by kernel_rfl)) (fun _ _ _ h => h) (Or.inl ⟨by rfl, ?_⟩) ?_ ?_
             rotate_left
             ·intro w'
              go_simp
              with_reducible rfl
             rotate_left
             ·simp only [Act.put, List.setIfInBounds_toArray, List.set_cons_zero, List.set_cons_succ, i64_w, i32_w]
              rfl
             refine pure_ (i := 11) (N := some 118) (v := ?_) (a' := ?_) #[true, true, true, true, true, true, true, false, true, false, true, true, false, false, false, false, false, false, false, false, false, false] rfl rfl (any_of HT_.out (by kernel_rfl)) (fun _ _ _ h => h) (Or.inl ⟨by rfl, ?_⟩) ?_ ?_
             rotate_left
             ·intro w'
              go_simp
              with_reducible rfl
             rotate_left
             ·simp only [Act.put, List.setIfInBounds_toArray, List.set_cons_zero, List.set_cons_succ, i64_w, i32_w]
              rfl
             refine pure_ (i := 12) (N := some 119) (v := ?_) (a' := ?_) #[true, true, true, true, true, true, true, false, true, false, true, true, true, false, false, false, false, false, false, false, false, false] rfl rfl (any_of HT_.out (by kernel_rfl)) (fun _ _ _ h => h) (Or.inl ⟨by rfl, ?_⟩) ?_ ?_
             rotate_left
             ·intro w'
              go_simp
              with_reducible rfl
             rotate_left
             ·simp only [Act.put, List.setIfInBounds_toArray, List.set_cons_zero, List.set_cons_succ, i64_w, i32_w]
              rfl
             refine pure_ (i := 13) (N := some 120) (v := ?_) (a' := ?_) #[true, true, true, true, true, true, true, false, true, false, true, true, true, true, false, false, false, false, false, false, false, false] rfl rfl (any_of HT_.out (by kernel_rfl)) (fun _ _ _ h => h) (Or.inl ⟨by rfl, ?_⟩) ?_ ?_
             rotate_left
             ·intro w'
              go_simp
              with_reducible rfl
             rotate_left
             ·simp only [Act.put, List.setIfInBounds_toArray, List.set_cons_zero, List.set_cons_succ, i64_w, i32_w]
              rfl
             refine pure_ (i := 14) (N := some 121) (v := ?_) (a' := ?_) #[true, true, true, true, true, true, true, false, true, false, true, true, true, true, true, false, false, false, false, false, false, false] rfl rfl (any_of HT_.out (by kernel_rfl)) (fun _ _ _ h => h) (Or.inl ⟨by rfl, ?_⟩) ?_ ?_
             rotate_left
             ·intro w'
              go_simp
              with_reducible rfl
             rotate_left
             ·simp only [Act.put, List.setIfInBounds_toArray, List.set_cons_zero, List.set_cons_succ, i64_w, i32_w]
              rfl
             refine pure_ (i := 16) (N := some 123) (v := ?_) (a' := ?_) #[true, true, true, true, true, true, true, false, true, false, true, true, true, true, true, false, true, false, false, false, false, false] rfl rfl (any_of HT_.out (by kernel_rfl)) (fun _ _ _ h => h) (Or.inl ⟨by rfl, ?_⟩) ?_ ?_
             rotate_left
             ·intro w'
              go_simp
              with_reducible rfl
             rotate_left
             ·simp only [Act.put, List.setIfInBounds_toArray, List.set_cons_zero, List.set_cons_succ, i64_w, i32_w]
              rfl
             refine take_ (i := 7) (N := some 114) (v := ?_) (a' := ?_) #[true, true, true, true, true, true, true, true, true, false, true, true, true, true, true, false, true, false, false, false, false, false] rfl rfl (take_ofW HT_.out HW_.out (by kernel_rfl)) (fun _ _ _ h => h) (Or.inl ⟨by rfl, ?_⟩) hHeld ?_ ?_
             rotate_left
             ·rintro w' ⟨s0, s1, s2, s3, s4, s5, s6, s7⟩
              go_simp
              with_reducible rfl
             rotate_left
             ·simp only [Act.put, List.setIfInBounds_toArray, List.set_cons_zero, List.set_cons_succ, i64_w, i32_w]
              rfl
             refine pure_ (i := 9) (N := some 116) (v := ?_) (a' := ?_) #[true, true, true, true, true, true, true, true, true, true, true, true, true, true, true, false, true, false, false, false, false, false] rfl rfl (any_of HT_.out (by kernel_rfl)) (fun _ _ _ h => h) (Or.inl ⟨by rfl, ?_⟩) ?_ ?_
             rotate_left
             ·intro w'
              go_simp
              with_reducible rfl
             rotate_left
             ·simp only [Act.put, List.setIfInBounds_toArray, List.set_cons_zero, List.set_cons_succ, i64_w, i32_w]
              rfl
             refine take_ (i := 15) (N := some 122) (v := ?_) (a' := ?_) #[true, true, true, true, true, true, true, true, true, true, true, true, true, true, true, true, true, false, false, false, false, false] rfl rfl (take_ofW HT_.out HW_.out (by kernel_rfl)) (fun _ _ _ h => h) (Or.inl ⟨by rfl, ?_⟩) hHeld ?_ ?_
             rotate_left
             ·rintro w' ⟨s0, s1, s2, s3, s4, s5, s6, s7⟩
              go_simp
              with_reducible rfl
             rotate_left
             ·simp only [Act.put, List.setIfInBounds_toArray, List.set_cons_zero, List.set_cons_succ, i64_w, i32_w]
              rfl
             refine pure_ (i := 17) (N := some 124) (v := ?_) (a' := ?_) #[true, true, true, true, true, true, true, true, true, true, true, true, true, true, true, true, true, true, false, false, false, false] rfl rfl (any_of HT_.out (by kernel_rfl)) (fun _ _ _ h => h) (Or.inl ⟨by rfl, ?_⟩) ?_ ?_
             rotate_left
             ·intro w'
              go_simp
              with_reducible rfl
             rotate_left
             ·simp only [Act.put, List.setIfInBounds_toArray, List.set_cons_zero, List.set_cons_succ, i64_w, i32_w]
              rfl
             refine pure_ (i := 18) (N := some 125) (v := ?_) (a' := ?_) #[true, true, true, true, true, true, true, true, true, true, true, true, true, true, true, true, true, true, true, false, false, false] rfl rfl (any_of HT_.out (by kernel_rfl)) (fun _ _ _ h => h) (Or.inl ⟨by rfl, ?_⟩) ?_ ?_
             rotate_left
             ·intro w'
              go_simp
              with_reducible rfl
             rotate_left
             ·simp only [Act.put, List.setIfInBounds_toArray, List.set_cons_zero, List.set_cons_succ, i64_w, i32_w]
              rfl
             refine pure_ (i := 19) (N := some 126) (v := ?_) (a' := ?_) #[true, true, true, true, true, true, true, true, true, true, true, true, true, true, true, true, true, true, true, true, false, false] rfl rfl (any_of HT_.out (by kernel_rfl)) (fun _ _ _ h => h) (Or.inl ⟨by rfl, ?_⟩) ?_ ?_
             rotate_left
             ·intro w'
              go_simp
              with_reducible rfl
             rotate_left
             ·simp only [Act.put, List.setIfInBounds_toArray, List.set_cons_zero, List.set_cons_succ, i64_w, i32_w]
              rfl
             refine pure_ (i := 20) (N := some 127) (v := ?_) (a' := ?_) #[true, true, true, true, true, true, true, true, true, true, true, true, true, true, true, true, true, true, true, true, true, false] rfl rfl (any_of HT_.out (by kernel_rfl)) (fun _ _ _ h => h) (Or.inl ⟨by rfl, ?_⟩) ?_ ?_
             rotate_left
             ·intro w'
              go_simp
              with_reducible rfl
             rotate_left
             ·simp only [Act.put, List.setIfInBounds_toArray, List.set_cons_zero, List.set_cons_succ, i64_w, i32_w]
              rfl
             refine last_ (i := 21) (N := none) #[true, true, true, true, true, true, true, true, true, true, true, true, true, true, true, true, true, true, true, true, true, true] rfl rfl (one_of HT_.out (by kernel_rfl)) (by decide) (fun K hK => ?_)
             refine skip_ (w1 := ?_) (by rfl) rfl ?_ ?_
             rotate_left
             ·go_simp
              rfl
             refine hK.out _ _ ?_
             clear hK K
             refine done_ (done_of HT_.out (by kernel_rfl)) ?_
             try go_wp2
             (try simp only [← hl11_3])
             go_roundg k3
             case measure => have := HJ6.out; have := HK2.out; have := HK3.out; omega
             case rel => exact ⟨(y483), (wrap64 (x14_3 + 1)), (by first | rfl | (simp; done) | (simp [*]; done)), H', ⟨by have := HJ6.out; have := HK2.out; have := HK3.out; omega⟩, ⟨by (try simp only [hl11_3]); (with_reducible repeat (first | apply Kd.R_alloc | apply Kd.R_drewN | apply Kd.R_drew)); exact Kd.R_mono (Kd.R_far (p := ⟨go60, (x14_3 : Int).toNat * 4 + 2, none⟩) (Kd.R_far (p := ⟨go60, (x14_3 : Int).toNat * 4 + 1, none⟩) (Kd.R_mono HO_10.out (fun k_ hk => (⟨hk, fun e_ => hk (by rw [e_]; rfl)⟩ : _ ∧ k_ ≠ go60))) (fun _ hk => hk.2) (.int .i64 (wrap64 (((rd_T46 x11_3 x14_3).f1.f0) - (wrap64 ((wrap64 (a0_1 * (ji32))) * (wrap64 (t467 - 4)))))))) (fun _ hk => hk.2) (.int .i64 (wrap64 (((rd_T46 x11_3 x14_3).f1.f1) - (wrap64 ((wrap64 (a0_1 * (ji32))) * (wrap64 (t467 - 4)))))))) (fun _ hk => hk.1)⟩, ⟨by (try simp only [hl11_3]); (with_reducible repeat (first | apply Kd.R_alloc | apply Kd.R_drewN | apply Kd.R_drew)); exact HQ62.out⟩, ⟨by (try simp only [hl11_3]); (with_reducible repeat (first | refine blk_drewN ?_ _ | refine blk_drew ?_ | refine blk_alloc ?_ _)); refine blk_far ?_ (by have h_ := Kd.R_ne HO_11.out BK463.out (by decide); intro e_; exact h_ (by rw [e_]; rfl)) _; (with_reducible repeat (first | refine blk_drewN ?_ _ | refine blk_drew ?_ | refine blk_alloc ?_ _)); refine blk_far ?_ (by have h_ := Kd.R_ne HO_11.out BK463.out (by decide); intro e_; exact h_ (by rw [e_]; rfl)) _; (with_reducible repeat (first | refine blk_drewN ?_ _ | refine blk_drew ?_ | refine blk_alloc ?_ _)); exact BK463.out⟩, ⟨by repeat (first | (with_reducible first | exact HB.out | apply below_alloc | apply pw_below_drewN | apply below_drew1 | refine below_set ?_ GB60.out | refine below_set ?_ GB60.out | refine below_set ?_ GE463.out) | exact HB.out)⟩⟩
            ·rw [if_neg c59] at H
             exact absurd H (by simp)
           ·rw [if_neg c58] at H
            have c58b0 : decide (x14_3 < (x11_3.length : Int)) = false := decide_eq_false c58
            clear c58
            replace H := Option.bind_eq_some_iff.mp H
            obtain ⟨t484, A630, H⟩ := H
            replace H : (some t484) = some r := H
            have A63 := Aside0.mk A630
            clear A630
            obtain rfl := Option.some.inj H
            go_wp2_with (first | ((with_reducible refine gate_callee (f := 19) rfl ?_); refine goesL_ (some 130) rfl rfl Try.func19 (by kernel_rfl) rfl #[.slice Ao56 x10_2.length co56, .slice Ao57 x11_3.length co57] rfl (by (try simp only [List.map_toArray, List.map_cons, List.map_nil]); first | done | rfl | (simp only [List.length_drop, List.length_take]; rfl)) ?_; (with_reducible refine (leathelp_Panes.calls k3 _ _ x10_2 _ _ x11_3 t484 _ ?side1 ?side2 ?side3 ?side4 A63.out).mono ?_); (case side1 => repeat (first | exact (Kd.R_reads' HO_10.out).2.2 | (with_reducible refine Kd.C_alloc ?_ _) | (with_reducible refine Kd.C_drewN ?_ _) | (with_reducible refine Kd.C_drew ?_))); (case side2 => exact (Kd.R_reads' HO_10.out).2.1); (case side3 => repeat (first | exact (Kd.R_reads' HO_11.out).2.2 | (with_reducible refine Kd.C_alloc ?_ _) | (with_reducible refine Kd.C_drewN ?_ _) | (with_reducible refine Kd.C_drew ?_))); (case side4 => exact (Kd.R_reads' HO_11.out).2.1); rintro e w' ⟨rfl, ⟨nd, rfl⟩⟩; refine ⟨_, rfl, ?_⟩))
            go_ret
            exact ⟨by first | rfl | (simp [errW_none, errW_some] <;> rfl) | (simp only [← hji32]; first | rfl | (simp [errW_none, errW_some] <;> rfl)) | (simp [*, errW_none, errW_some] <;> rfl), by repeat (first | (with_reducible first | exact HB.out | apply below_alloc | apply pw_below_drewN | apply below_drew1 | refine below_set ?_ GE463.out) | exact HB.out)⟩
        ·rw [if_neg c55] at H
         exact absurd H (by simp)
 ·replace c6 := Bool.eq_false_iff.mpr c6
  subst c6
  have H1 : (none) = some r := by rw [if_neg (show ¬ (false = true) by decide)] at H; exact H
  clear H
  have H := H1
  clear H1
  exact absurd H (by simp)
end Go.Proofs.Ytdinbnbogdadgaa.X
