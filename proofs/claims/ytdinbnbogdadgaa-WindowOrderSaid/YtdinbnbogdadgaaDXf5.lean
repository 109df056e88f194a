/- Proofs towards the laws of this seat, joined. No conditions beyond those typed. -/
import Derived.Test.YtdinbnbogdadgaaB10
import Derived.Test.YtdinbnbogdadgaaB17
import Derived.Test.YtdinbnbogdadgaaB11
import Derived.Test.YtdinbnbogdadgaaDXf24
import Derived.Test.YtdinbnbogdadgaaB16
namespace Go.Proofs.Ytdinbnbogdadgaa.X
open Go.RowKit Go.Proofs.YtdinbnbogdadgaaW.PrintWords Go.Proofs.YtdinbnbogdadgaaW.PrintLast Go.Proofs.YtdinbnbogdadgaaW.PrintMore
attribute [local go_sem] max2_int min2_int max_two min_two max_three min_three max_four min_four   -- for this text's walks alone
set_option linter.unusedVariables false
set_option linter.unusedSimpArgs false
mutual
def leatlaw11_WindowOrder.j0 : Nat → Int → List (S37) → Int → Bool → Int → Int → Int → Option (Bool)
 | 0, _, _, _, _, _, _, _ => none
 | k + 1, x1, x2, x3, x33, x345000, x345001, x345002 => if x33 = true then (some true) else (if ([] : List (S37)).length + x2.length < 5864062014805 then (leatlaw11_WindowOrder.l0 k x1 x2 x3 (([] : List (S37)) ++ x2) 0 x345000 x345001 x345002) else (none))
def leatlaw11_WindowOrder.l0 : Nat → Int → List (S37) → Int → List (S37) → Int → Int → Int → Int → Option (Bool)
 | 0, _, _, _, _, _, _, _, _ => none
 | k + 1, x1, x2, x3, x9, x10, x345000, x345001, x345002 => if x10 < (x9.length : Int) then ((leathelp_Place.f x3 1000).bind fun t350 => (if (x9.length : Int) = 0 then (none) else (if 0 ≤ (Int.tmod (wrap64 (t350 + (wrap64 (7 * x10)))) (x9.length : Int)) then (if (Int.tmod (wrap64 (t350 + (wrap64 (7 * x10)))) (x9.length : Int)) < (x9.length : Int) then (if 0 ≤ x10 then (leatlaw11_WindowOrder.l0 k x1 x2 x3 ((x9.set (x10 : Int).toNat (⟨(rd_T37 x9 (Int.tmod (wrap64 (t350 + (wrap64 (7 * x10)))) (x9.length : Int))).f0, (rd_T37 x9 (Int.tmod (wrap64 (t350 + (wrap64 (7 * x10)))) (x9.length : Int))).f1, (rd_T37 x9 (Int.tmod (wrap64 (t350 + (wrap64 (7 * x10)))) (x9.length : Int))).f2⟩ : S37)).set ((Int.tmod (wrap64 (t350 + (wrap64 (7 * x10)))) (x9.length : Int)) : Int).toNat (⟨(rd_T37 x9 x10).f0, (rd_T37 x9 x10).f1, (rd_T37 x9 x10).f2⟩ : S37)) (wrap64 (x10 + 1)) x345000 x345001 x345002) else (none)) else (none)) else (none)))) else (leatlaw11_WindowOrder.l1 k x1 x2 x9 ([] : List (S46)) ([] : List (S46)) 0 x345000 x345001 x345002)
def leatlaw11_WindowOrder.l1 : Nat → Int → List (S37) → List (S37) → List (S46) → List (S46) → Int → Int → Int → Int → Option (Bool)
 | 0, _, _, _, _, _, _, _, _, _ => none
 | k + 1, x1, x2, x9, x12, x13, x14, x345000, x345001, x345002 => if x14 < (x2.length : Int) then (if 0 ≤ x14 then ((leatlaw11_time.f ((rd_T37 x2 x14).f1)).bind fun t356 => (if t356 = true then ((window_Put.f k x345000 x345001 x345002 x1 x12 ((rd_T37 x2 x14).f0) ((rd_T37 x2 x14).f1) ((rd_T37 x2 x14).f2)).bind fun t358 => (if x14 < (x9.length : Int) then ((window_Put.f k x345000 x345001 x345002 x1 x13 ((rd_T37 x9 x14).f0) ((rd_T37 x9 x14).f1) ((rd_T37 x9 x14).f2)).bind fun t362 => (leatlaw11_WindowOrder.l1 k x1 x2 x9 t358 t362 (wrap64 (x14 + 1)) x345000 x345001 x345002)) else (none))) else (some true))) else (none)) else (leatlaw11_WindowOrder.l2 k x12 x13 1 x345000 x345001 x345002)
def leatlaw11_WindowOrder.l2 : Nat → List (S46) → List (S46) → Int → Int → Int → Int → Option (Bool)
 | 0, _, _, _, _, _, _ => none
 | k + 1, x12, x13, x15, x345000, x345001, x345002 => if x15 < (x12.length : Int) then (leatlaw11_WindowOrder.j4 k x12 x13 x15 (x345000 == 3) x345000 x345001 x345002) else (leatlaw11_WindowOrder.j4 k x12 x13 x15 false x345000 x345001 x345002)
def leatlaw11_WindowOrder.j4 : Nat → List (S46) → List (S46) → Int → Bool → Int → Int → Int → Option (Bool)
 | 0, _, _, _, _, _, _, _ => none
 | k + 1, x12, x13, x15, x104, x345000, x345001, x345002 => if x104 = true then (if 0 ≤ x15 then (if x15 < (x12.length : Int) then (if 0 ≤ (wrap64 (x15 - 1)) then (if (wrap64 (x15 - 1)) < (x12.length : Int) then (if ((rd_T46 x12 x15).f0) = ((rd_T46 x12 (wrap64 (x15 - 1))).f0) then (if ((rd_T46 x12 x15).f1.f0) < ((rd_T46 x12 (wrap64 (x15 - 1))).f1.f1) then (none) else (leatlaw11_WindowOrder.l2 k x12 x13 (wrap64 (x15 + 1)) x345000 x345001 x345002)) else (leatlaw11_WindowOrder.l2 k x12 x13 (wrap64 (x15 + 1)) x345000 x345001 x345002)) else (none)) else (none)) else (none)) else (none)) else ((leathelp_Panes.f k x12 x13).bind fun t369 => (some t369))
end
def leatlaw11_WindowOrder.f (k : Nat) (a0_0 : Int) (a0_1 : Int) (a0_2 : Int) (a1 : Int) (l2 : List (S37)) (a3 : Int) : Option (Bool) := (leatlaw11_known.f k).bind fun t345 => (if t345 = true then ((leatlaw11_fit.f k a0_0 a0_1 a0_2).bind fun t346 => (if t346 = true then (if (l2.length : Int) > 60 then (leatlaw11_WindowOrder.j0 k a1 l2 a3 true a0_0 a0_1 a0_2) else (if a1 < 1 then (leatlaw11_WindowOrder.j0 k a1 l2 a3 true a0_0 a0_1 a0_2) else (leatlaw11_WindowOrder.j0 k a1 l2 a3 (decide (a1 > 5)) a0_0 a0_1 a0_2))) else (leatlaw11_WindowOrder.j0 k a1 l2 a3 true a0_0 a0_1 a0_2))) else (none))
theorem leatlaw11_WindowOrder.mono_l : ∀ k, (∀ y0 y1 y2 y3 y4 y5 y6, LeO (leatlaw11_WindowOrder.j0 k y0 y1 y2 y3 y4 y5 y6) (leatlaw11_WindowOrder.j0 (k + 1) y0 y1 y2 y3 y4 y5 y6)) ∧ (∀ y0 y1 y2 y3 y4 y5 y6 y7, LeO (leatlaw11_WindowOrder.l0 k y0 y1 y2 y3 y4 y5 y6 y7) (leatlaw11_WindowOrder.l0 (k + 1) y0 y1 y2 y3 y4 y5 y6 y7)) ∧ (∀ y0 y1 y2 y3 y4 y5 y6 y7 y8, LeO (leatlaw11_WindowOrder.l1 k y0 y1 y2 y3 y4 y5 y6 y7 y8) (leatlaw11_WindowOrder.l1 (k + 1) y0 y1 y2 y3 y4 y5 y6 y7 y8)) ∧ (∀ y0 y1 y2 y3 y4 y5, LeO (leatlaw11_WindowOrder.l2 k y0 y1 y2 y3 y4 y5) (leatlaw11_WindowOrder.l2 (k + 1) y0 y1 y2 y3 y4 y5)) ∧ (∀ y0 y1 y2 y3 y4 y5 y6, LeO (leatlaw11_WindowOrder.j4 k y0 y1 y2 y3 y4 y5 y6) (leatlaw11_WindowOrder.j4 (k + 1) y0 y1 y2 y3 y4 y5 y6))
 | 0 => ⟨fun _ _ _ _ _ _ _ r h => by simp [leatlaw11_WindowOrder.j0] at h, fun _ _ _ _ _ _ _ _ r h => by simp [leatlaw11_WindowOrder.l0] at h, fun _ _ _ _ _ _ _ _ _ r h => by simp [leatlaw11_WindowOrder.l1] at h, fun _ _ _ _ _ _ r h => by simp [leatlaw11_WindowOrder.l2] at h, fun _ _ _ _ _ _ _ r h => by simp [leatlaw11_WindowOrder.j4] at h⟩
 | k + 1 => by
  obtain ⟨ih0, ih1, ih2, ih3, ih4⟩ := leatlaw11_WindowOrder.mono_l k
  refine ⟨?_, ?_, ?_, ?_, ?_⟩
  ·intro y0 y1 y2 y3 y4 y5 y6
   unfold leatlaw11_WindowOrder.j0
   repeat' first
   | (with_reducible exact ih0 _ _ _ _ _ _ _)
   | (with_reducible exact ih1 _ _ _ _ _ _ _ _)
   | (with_reducible exact ih2 _ _ _ _ _ _ _ _ _)
   | (with_reducible exact ih3 _ _ _ _ _ _)
   | (with_reducible exact ih4 _ _ _ _ _ _ _)
   | (with_reducible exact leathelp_Panes.mono _ _ _)
   | (with_reducible exact leatlaw11_fit.mono _ _ _ _)
   | (with_reducible exact leatlaw11_known.mono _)
   | (with_reducible exact window_Put.mono _ _ _ _ _ _ _ _ _)
   | (with_reducible exact LeO.refl _)
   | (with_reducible exact LeO.none _)
   | (with_reducible refine LeO.ite ?_ ?_)
   | (with_reducible refine LeO.bind ?_ (fun _ => ?_))
   | exact ih0 _ _ _ _ _ _ _
   | exact ih1 _ _ _ _ _ _ _ _
   | exact ih2 _ _ _ _ _ _ _ _ _
   | exact ih3 _ _ _ _ _ _
   | exact ih4 _ _ _ _ _ _ _
   | exact leathelp_Panes.mono _ _ _
   | exact leatlaw11_fit.mono _ _ _ _
   | exact leatlaw11_known.mono _
   | exact window_Put.mono _ _ _ _ _ _ _ _ _
   | exact LeO.none _
   | refine LeO.ite ?_ ?_
   | refine LeO.bind ?_ (fun _ => ?_)
  ·intro y0 y1 y2 y3 y4 y5 y6 y7
   unfold leatlaw11_WindowOrder.l0
   repeat' first
   | (with_reducible exact ih0 _ _ _ _ _ _ _)
   | (with_reducible exact ih1 _ _ _ _ _ _ _ _)
   | (with_reducible exact ih2 _ _ _ _ _ _ _ _ _)
   | (with_reducible exact ih3 _ _ _ _ _ _)
   | (with_reducible exact ih4 _ _ _ _ _ _ _)
   | (with_reducible exact leathelp_Panes.mono _ _ _)
   | (with_reducible exact leatlaw11_fit.mono _ _ _ _)
   | (with_reducible exact leatlaw11_known.mono _)
   | (with_reducible exact window_Put.mono _ _ _ _ _ _ _ _ _)
   | (with_reducible exact LeO.refl _)
   | (with_reducible exact LeO.none _)
   | (with_reducible refine LeO.ite ?_ ?_)
   | (with_reducible refine LeO.bind ?_ (fun _ => ?_))
   | exact ih0 _ _ _ _ _ _ _
   | exact ih1 _ _ _ _ _ _ _ _
   | exact ih2 _ _ _ _ _ _ _ _ _
   | exact ih3 _ _ _ _ _ _
   | exact ih4 _ _ _ _ _ _ _
   | exact leathelp_Panes.mono _ _ _
   | exact leatlaw11_fit.mono _ _ _ _
   | exact leatlaw11_known.mono _
   | exact window_Put.mono _ _ _ _ _ _ _ _ _
   | exact LeO.none _
   | refine LeO.ite ?_ ?_
   | refine LeO.bind ?_ (fun _ => ?_)
  ·intro y0 y1 y2 y3 y4 y5 y6 y7 y8
   unfold leatlaw11_WindowOrder.l1
   repeat' first
   | (with_reducible exact ih0 _ _ _ _ _ _ _)
   | (with_reducible exact ih1 _ _ _ _ _ _ _ _)
   | (with_reducible exact ih2 _ _ _ _ _ _ _ _ _)
   | (with_reducible exact ih3 _ _ _ _ _ _)
   | (with_reducible exact ih4 _ _ _ _ _ _ _)
   | (with_reducible exact leathelp_Panes.mono _ _ _)
   | (with_reducible exact leatlaw11_fit.mono _ _ _ _)
   | (with_reducible exact leatlaw11_known.mono _)
   | (with_reducible exact window_Put.mono _ _ _ _ _ _ _ _ _)
   | (with_reducible exact LeO.refl _)
   | (with_reducible exact LeO.none _)
   | (with_reducible refine LeO.ite ?_ ?_)
   | (with_reducible refine LeO.bind ?_ (fun _ => ?_))
   | exact ih0 _ _ _ _ _ _ _
   | exact ih1 _ _ _ _ _ _ _ _
   | exact ih2 _ _ _ _ _ _ _ _ _
   | exact ih3 _ _ _ _ _ _
   | exact ih4 _ _ _ _ _ _ _
   | exact leathelp_Panes.mono _ _ _
   | exact leatlaw11_fit.mono _ _ _ _
   | exact leatlaw11_known.mono _
   | exact window_Put.mono _ _ _ _ _ _ _ _ _
   | exact LeO.none _
   | refine LeO.ite ?_ ?_
   | refine LeO.bind ?_ (fun _ => ?_)
  ·intro y0 y1 y2 y3 y4 y5
   unfold leatlaw11_WindowOrder.l2
   repeat' first
   | (with_reducible exact ih0 _ _ _ _ _ _ _)
   | (with_reducible exact ih1 _ _ _ _ _ _ _ _)
   | (with_reducible exact ih2 _ _ _ _ _ _ _ _ _)
   | (with_reducible exact ih3 _ _ _ _ _ _)
   | (with_reducible exact ih4 _ _ _ _ _ _ _)
   | (with_reducible exact leathelp_Panes.mono _ _ _)
   | (with_reducible exact leatlaw11_fit.mono _ _ _ _)
   | (with_reducible exact leatlaw11_known.mono _)
   | (with_reducible exact window_Put.mono _ _ _ _ _ _ _ _ _)
   | (with_reducible exact LeO.refl _)
   | (with_reducible exact LeO.none _)
   | (with_reducible refine LeO.ite ?_ ?_)
   | (with_reducible refine LeO.bind ?_ (fun _ => ?_))
   | exact ih0 _ _ _ _ _ _ _
   | exact ih1 _ _ _ _ _ _ _ _
   | exact ih2 _ _ _ _ _ _ _ _ _
   | exact ih3 _ _ _ _ _ _
   | exact ih4 _ _ _ _ _ _ _
   | exact leathelp_Panes.mono _ _ _
   | exact leatlaw11_fit.mono _ _ _ _
   | exact leatlaw11_known.mono _
   | exact window_Put.mono _ _ _ _ _ _ _ _ _
   | exact LeO.none _
   | refine LeO.ite ?_ ?_
   | refine LeO.bind ?_ (fun _ => ?_)
  ·intro y0 y1 y2 y3 y4 y5 y6
   unfold leatlaw11_WindowOrder.j4
   repeat' first
   | (with_reducible exact ih0 _ _ _ _ _ _ _)
   | (with_reducible exact ih1 _ _ _ _ _ _ _ _)
   | (with_reducible exact ih2 _ _ _ _ _ _ _ _ _)
   | (with_reducible exact ih3 _ _ _ _ _ _)
   | (with_reducible exact ih4 _ _ _ _ _ _ _)
   | (with_reducible exact leathelp_Panes.mono _ _ _)
   | (with_reducible exact leatlaw11_fit.mono _ _ _ _)
   | (with_reducible exact leatlaw11_known.mono _)
   | (with_reducible exact window_Put.mono _ _ _ _ _ _ _ _ _)
   | (with_reducible exact LeO.refl _)
   | (with_reducible exact LeO.none _)
   | (with_reducible refine LeO.ite ?_ ?_)
   | (with_reducible refine LeO.bind ?_ (fun _ => ?_))
   | exact ih0 _ _ _ _ _ _ _
   | exact ih1 _ _ _ _ _ _ _ _
   | exact ih2 _ _ _ _ _ _ _ _ _
   | exact ih3 _ _ _ _ _ _
   | exact ih4 _ _ _ _ _ _ _
   | exact leathelp_Panes.mono _ _ _
   | exact leatlaw11_fit.mono _ _ _ _
   | exact leatlaw11_known.mono _
   | exact window_Put.mono _ _ _ _ _ _ _ _ _
   | exact LeO.none _
   | refine LeO.ite ?_ ?_
   | refine LeO.bind ?_ (fun _ => ?_)
theorem leatlaw11_WindowOrder.mono : ∀ a0 a1 a2 a3 a4 a5 k, LeO (leatlaw11_WindowOrder.f k a0 a1 a2 a3 a4 a5) (leatlaw11_WindowOrder.f (k + 1) a0 a1 a2 a3 a4 a5) := by
 intro a0 a1 a2 a3 a4 a5 k
 obtain ⟨ih0, ih1, ih2, ih3, ih4⟩ := leatlaw11_WindowOrder.mono_l k
 unfold leatlaw11_WindowOrder.f
 repeat' first
   | (with_reducible exact ih0 _ _ _ _ _ _ _)
   | (with_reducible exact ih1 _ _ _ _ _ _ _ _)
   | (with_reducible exact ih2 _ _ _ _ _ _ _ _ _)
   | (with_reducible exact ih3 _ _ _ _ _ _)
   | (with_reducible exact ih4 _ _ _ _ _ _ _)
   | (with_reducible exact leathelp_Panes.mono _ _ _)
   | (with_reducible exact leatlaw11_fit.mono _ _ _ _)
   | (with_reducible exact leatlaw11_known.mono _)
   | (with_reducible exact window_Put.mono _ _ _ _ _ _ _ _ _)
   | (with_reducible exact LeO.refl _)
   | (with_reducible exact LeO.none _)
   | (with_reducible refine LeO.ite ?_ ?_)
   | (with_reducible refine LeO.bind ?_ (fun _ => ?_))
   | exact ih0 _ _ _ _ _ _ _
   | exact ih1 _ _ _ _ _ _ _ _
   | exact ih2 _ _ _ _ _ _ _ _ _
   | exact ih3 _ _ _ _ _ _
   | exact ih4 _ _ _ _ _ _ _
   | exact leathelp_Panes.mono _ _ _
   | exact leatlaw11_fit.mono _ _ _ _
   | exact leatlaw11_known.mono _
   | exact window_Put.mono _ _ _ _ _ _ _ _ _
   | exact LeO.none _
   | refine LeO.ite ?_ ?_
   | refine LeO.bind ?_ (fun _ => ?_)
def leatlaw11_WindowOrder.T10 : Bool × List (List Nat × List Nat) := (true, [([], []), ([], []), ([], []), ([], []), ([], []), ([4], [4]), ([3, 5], [3, 5]), ([], []), ([], []), ([], []), ([9], [9]), ([8, 10], [8, 10]), ([7, 11], [7, 11]), ([12], [12]), ([], []), ([], []), ([14, 15], [14, 15]), ([16], [16]), ([0, 1, 0, 1, 7, 8, 9, 10, 11, 12, 13, 17], [0, 1]), ([18, 13, 0, 1, 7, 8, 9, 10, 11, 12, 13, 17], [13, 18]), ([2, 6, 0, 1, 2, 3, 4, 5, 6, 7, 8, 9, 10, 11, 12, 13, 14, 15, 16, 17, 18, 19], [2, 6]), ([20, 17, 19, 0, 1, 2, 3, 4, 5, 6, 7, 8, 9, 10, 11, 12, 13, 14, 15, 16, 17, 18, 19], [17, 20])])
def leatlaw11_WindowOrder.B10 : List Nat := [0, 0, 0, 0, 0, 16, 56, 0, 0, 0, 512, 1792, 3968, 8064, 0, 0, 49152, 114688, 262019, 524163, 1048575, 2097151]
theorem leatlaw11_WindowOrder.tab10 : rtab .any (opsOf Try.f5 10) = leatlaw11_WindowOrder.T10 := by kernel_rfl
theorem leatlaw11_WindowOrder.bits10 : waitsOk leatlaw11_WindowOrder.T10.2 leatlaw11_WindowOrder.B10 = true := by kernel_rfl
def leatlaw11_WindowOrder.T17 : Bool × List (List Nat × List Nat) := (true, [([], []), ([], []), ([], []), ([], []), ([], []), ([3, 4], [3, 4]), ([5], [5]), ([0, 1, 2, 6], [0, 1, 2, 6]), ([], []), ([], []), ([], []), ([], []), ([], []), ([11, 12], [11, 12]), ([13], [13]), ([8, 9, 10, 14, 7], [8, 9, 10, 14]), ([7, 15, 0, 1, 2, 3, 4, 5, 6, 7], [2, 7]), ([15, 16, 0, 1, 2, 3, 4, 5, 6, 7, 8, 9, 10, 11, 12, 13, 14, 15, 16], [10, 15])])
def leatlaw11_WindowOrder.B17 : List Nat := [0, 0, 0, 0, 0, 24, 56, 127, 0, 0, 0, 0, 0, 6144, 14336, 32767, 65535, 131071]
theorem leatlaw11_WindowOrder.tab17 : rtab .any (opsOf Try.f5 17) = leatlaw11_WindowOrder.T17 := by kernel_rfl
theorem leatlaw11_WindowOrder.bits17 : waitsOk leatlaw11_WindowOrder.T17.2 leatlaw11_WindowOrder.B17 = true := by kernel_rfl
def leatlaw11_WindowOrder.T21 : Bool × List (List Nat × List Nat) := (true, [([], []), ([], []), ([0, 1], [0, 1]), ([2], [2]), ([3], [3]), ([], []), ([], []), ([6], [6]), ([5, 7], [5, 7]), ([8], [8]), ([9], [9]), ([4, 10], [4, 10]), ([11], [11]), ([12], [12]), ([12], [12]), ([13, 14, 12], [12, 13, 14]), ([15, 12], [12, 15]), ([16, 12], [12, 16]), ([17, 12], [12, 17]), ([12], [12]), ([12], [12]), ([20, 12], [12, 20]), ([19, 21, 12], [12, 19, 21]), ([22, 12], [12, 22]), ([23, 12], [12, 23]), ([24, 12], [12, 24]), ([18, 25, 12], [12, 18, 25]), ([12, 26], [12, 26])])
def leatlaw11_WindowOrder.B21 : List Nat := [0, 0, 3, 7, 15, 0, 0, 64, 224, 480, 992, 2047, 4095, 8191, 8191, 32767, 65535, 131071, 262143, 8191, 8191, 1056767, 3678207, 7872511, 16261119, 33038335, 67108863, 134217727]
theorem leatlaw11_WindowOrder.tab21 : rtab .any (opsOf Try.f5 21) = leatlaw11_WindowOrder.T21 := by kernel_rfl
theorem leatlaw11_WindowOrder.bits21 : waitsOk leatlaw11_WindowOrder.T21.2 leatlaw11_WindowOrder.B21 = true := by kernel_rfl
set_option maxHeartbeats 8000000 in
set_option maxRecDepth 100000 in
theorem leatlaw11_WindowOrder.calls (k : Nat) (a0_0 : Int) (a0_1 : Int) (a0_2 : Int) (a1 : Int) (A2 : Option Addr) (c2 : Nat) (l2 : List (S37)) (a3 : Int) (r : Bool) (w : World) (hr2 : Kd.C k37 w A2 l2.length l2) (hc2 : l2.length ≤ c2) (h : leatlaw11_WindowOrder.f k a0_0 a0_1 a0_2 a1 l2 a3 = some r) :
  Calls Try.prog 5 #[.agg #[.int .i64 a0_0, .int .i64 a0_1, .int .i64 a0_2], .int .i64 a1, .slice A2 l2.length c2, .int .i64 a3] w fun e w' => e = .returned (.bool r) ∧ Below w.heap.size w w' := by
 have hu23 := Try.underlying23
 have hu37 := Try.underlying37
 have HR2 := Aside0.mk hr2
 have HC2 := Aside0.mk hc2
 clear hr2 hc2
 have HB := Aside0.mk (Below.refl w.heap.size w)
 have H : ((leatlaw11_known.f k).bind fun t345 => (if t345 = true then ((leatlaw11_fit.f k a0_0 a0_1 a0_2).bind fun t346 => (if t346 = true then (if (l2.length : Int) > 60 then (leatlaw11_WindowOrder.j0 k a1 l2 a3 true a0_0 a0_1 a0_2) else (if a1 < 1 then (leatlaw11_WindowOrder.j0 k a1 l2 a3 true a0_0 a0_1 a0_2) else (leatlaw11_WindowOrder.j0 k a1 l2 a3 (decide (a1 > 5)) a0_0 a0_1 a0_2))) else (leatlaw11_WindowOrder.j0 k a1 l2 a3 true a0_0 a0_1 a0_2))) else (none))) = some r := h
 clear h
 replace H := Option.bind_eq_some_iff.mp H
 obtain ⟨t345, A50, H⟩ := H
 replace H : (if t345 = true then ((leatlaw11_fit.f k a0_0 a0_1 a0_2).bind fun t346 => (if t346 = true then (if (l2.length : Int) > 60 then (leatlaw11_WindowOrder.j0 k a1 l2 a3 true a0_0 a0_1 a0_2) else (if a1 < 1 then (leatlaw11_WindowOrder.j0 k a1 l2 a3 true a0_0 a0_1 a0_2) else (leatlaw11_WindowOrder.j0 k a1 l2 a3 (decide (a1 > 5)) a0_0 a0_1 a0_2))) else (leatlaw11_WindowOrder.j0 k a1 l2 a3 true a0_0 a0_1 a0_2))) else (none)) = some r := H
 have A5 := Aside0.mk A50
 clear A50
 by_cases c6 : t345 = true
 ·subst c6
  have H1 : ((leatlaw11_fit.f k a0_0 a0_1 a0_2).bind fun t346 => (if t346 = true then (if (l2.length : Int) > 60 then (leatlaw11_WindowOrder.j0 k a1 l2 a3 true a0_0 a0_1 a0_2) else (if a1 < 1 then (leatlaw11_WindowOrder.j0 k a1 l2 a3 true a0_0 a0_1 a0_2) else (leatlaw11_WindowOrder.j0 k a1 l2 a3 (decide (a1 > 5)) a0_0 a0_1 a0_2))) else (leatlaw11_WindowOrder.j0 k a1 l2 a3 true a0_0 a0_1 a0_2))) = some r := by rw [if_pos rfl] at H; exact H
  clear H
  have H := H1
  clear H1
  have HC7 := Aside0.mk H
  clear H
  go_enter Try.func5, Try.ntmps5
  go_upto_region 3 with (first | ((with_reducible refine gate_dst (N := 4) rfl ?_); (try (refine gate_guard (by rfl) ?_; dsimp only)); refine box_event ?hg (N := 4) ?hd (cs := #[.int .i64 a0_0, .int .i64 a0_1, .int .i64 a0_2]) (t := 23) ?hr ?_; (case hd => rfl); (case hg => rfl); (case hr => first | (go_simp; done) | (go_simp; rfl)); intro gb344 hg w8 hbox hb; have n0_ := Aside0.mk (below_step (by repeat (first | (with_reducible first | exact HB.out | apply below_alloc | apply pw_below_drewN | apply below_drew1) | exact HB.out)) hb); have n1_ := Aside0.mk (hbox); have n2_ := Aside0.mk ((by rw [hg]; exact (below_size (by repeat (first | (with_reducible first | exact HB.out | apply below_alloc | apply pw_below_drewN | apply below_drew1) | exact HB.out))) : w.heap.size ≤ gb344)); have n3_ := Aside0.mk ((by rw [hg]; exact (below_size (by repeat (first | (with_reducible first | exact HB.out | apply below_alloc | apply pw_below_drewN | apply below_drew1) | exact HB.out))) : w.heap.size ≤ gb344)); clear HB; have HB := n0_; have BK344 := n1_; have GW344 := n2_; have GE344 := n3_; clear n0_ n1_ n2_ n3_; clear hb hbox hg) | ((with_reducible refine gate_callee (f := 12) rfl ?_); refine goesL_ (some 16) rfl rfl Try.func12 (by kernel_rfl) rfl #[] rfl (by (try simp only [List.map_toArray, List.map_cons, List.map_nil]); first | done | rfl | (simp only [List.length_drop, List.length_take]; rfl)) ?_; (with_reducible refine (leatlaw11_known.calls k  true _ A5.out).mono ?_); rintro e w9 ⟨rfl, hb⟩; refine ⟨_, rfl, ?_⟩; have n0_ := Aside0.mk (blk_below (g := gb344) (o := .cells #[.int .i64 a0_0, .int .i64 a0_1, .int .i64 a0_2] 23 (0, 0)) (by (with_reducible repeat (first | refine blk_drewN ?_ _ | refine blk_drew ?_ | refine blk_alloc ?_ _)); exact BK344.out) hb); have n1_ := Aside0.mk (below_step (by repeat (first | (with_reducible first | exact HB.out | apply below_alloc | apply pw_below_drewN | apply below_drew1 | refine below_set ?_ GE344.out) | exact HB.out)) hb); clear BK344; clear HB; have BK344 := n0_; have HB := n1_; clear n0_ n1_; (try clear hb); (try clear hb2); (try clear hk); (try clear hi)))
  (try simp only [Act.put, List.setIfInBounds_toArray, List.set_cons_zero, List.set_cons_succ])
  go_cut [33] (fun v33 wc => ∃ (kq : Nat) (x33_6 : Bool), v33 = .bool x33_6 ∧ Aside0 (leatlaw11_WindowOrder.j0 kq a1 l2 a3 x33_6 a0_0 a0_1 a0_2 = some r) ∧ Aside0 (kq ≤ k) ∧ Aside0 (wc.heap[gb344]? = some (.cells #[.int .i64 a0_0, .int .i64 a0_1, .int .i64 a0_2] 23 (0, 0))) ∧ Aside0 (Below w.heap.size w wc))
  case first =>
   have H := HC7.out
   clear HC7
   replace H := Option.bind_eq_some_iff.mp H
   obtain ⟨t346, A100, H⟩ := H
   replace H : (if t346 = true then (if (l2.length : Int) > 60 then (leatlaw11_WindowOrder.j0 k a1 l2 a3 true a0_0 a0_1 a0_2) else (if a1 < 1 then (leatlaw11_WindowOrder.j0 k a1 l2 a3 true a0_0 a0_1 a0_2) else (leatlaw11_WindowOrder.j0 k a1 l2 a3 (decide (a1 > 5)) a0_0 a0_1 a0_2))) else (leatlaw11_WindowOrder.j0 k a1 l2 a3 true a0_0 a0_1 a0_2)) = some r := H
   have A10 := Aside0.mk A100
   clear A100
   by_cases c11 : t346 = true
   ·subst c11
    have H1 : (if (l2.length : Int) > 60 then (leatlaw11_WindowOrder.j0 k a1 l2 a3 true a0_0 a0_1 a0_2) else (if a1 < 1 then (leatlaw11_WindowOrder.j0 k a1 l2 a3 true a0_0 a0_1 a0_2) else (leatlaw11_WindowOrder.j0 k a1 l2 a3 (decide (a1 > 5)) a0_0 a0_1 a0_2))) = some r := by rw [if_pos rfl] at H; exact H
    clear H
    have H := H1
    clear H1
    by_cases c12 : (l2.length : Int) > 60
    ·rw [if_pos c12] at H
     have c12b0 : decide (60 < (l2.length : Int)) = true := decide_eq_true c12
     have c12b1 : decide (60 < l2.length) = true := decide_eq_true (by omega)
     clear c12
     (first | rw [c12b0] | (simp only [i64_w, i32_w]; rw [c12b0]) | skip)
     have H' := Aside0.mk H
     clear H
     have hcz13_0 : w9.cell? ⟨gb344, 0, none⟩ = some (.int .i64 a0_0) := (blk_cell BK344.out 0).trans rfl
     have hcz13_1 : w9.cell? ⟨gb344, 1, none⟩ = some (.int .i64 a0_1) := (blk_cell BK344.out 1).trans rfl
     have hcz13_2 : w9.cell? ⟨gb344, 2, none⟩ = some (.int .i64 a0_2) := (blk_cell BK344.out 2).trans rfl
     have hfz13_0 := blk_frozen BK344.out 0
     have hfz13_1 := blk_frozen BK344.out 1
     have hfz13_2 := blk_frozen BK344.out 2
     go_wp2_with (first | ((with_reducible refine gate_callee (f := 13) rfl ?_); refine goesL_ (some 19) rfl rfl Try.func13 (by kernel_rfl) rfl #[.agg #[.int .i64 a0_0, .int .i64 a0_1, .int .i64 a0_2]] rfl (by (try simp only [List.map_toArray, List.map_cons, List.map_nil]); first | done | rfl | (simp only [List.length_drop, List.length_take]; rfl)) ?_; (with_reducible refine (leatlaw11_fit.calls k a0_0 a0_1 a0_2 true _ A10.out).mono ?_); rintro e w14 ⟨rfl, hb⟩; refine ⟨_, rfl, ?_⟩; have n0_ := Aside0.mk (blk_below (g := gb344) (o := .cells #[.int .i64 a0_0, .int .i64 a0_1, .int .i64 a0_2] 23 (0, 0)) (by (with_reducible repeat (first | refine blk_drewN ?_ _ | refine blk_drew ?_ | refine blk_alloc ?_ _)); exact BK344.out) hb); have n1_ := Aside0.mk (below_step (by repeat (first | (with_reducible first | exact HB.out | apply below_alloc | apply pw_below_drewN | apply below_drew1 | refine below_set ?_ GE344.out) | exact HB.out)) hb); clear BK344; clear HB; have BK344 := n0_; have HB := n1_; clear n0_ n1_; (try clear hb); (try clear hb2); (try clear hk); (try clear hi)))
     go_meet
     case rel => exact ⟨_, (true), (by first | rfl | (simp; done) | (simp [*]; done)), H', ⟨by first | omega | exact Nat.le_refl _⟩, ⟨by (with_reducible repeat (first | refine blk_drewN ?_ _ | refine blk_drew ?_ | refine blk_alloc ?_ _)); exact BK344.out⟩, ⟨by repeat (first | (with_reducible first | exact HB.out | apply below_alloc | apply pw_below_drewN | apply below_drew1 | refine below_set ?_ GE344.out) | exact HB.out)⟩⟩
    ·rw [if_neg c12] at H
     have c12b0 : decide (60 < (l2.length : Int)) = false := decide_eq_false c12
     have c12b1 : decide (60 < l2.length) = false := decide_eq_false (by omega)
     clear c12
     (first | rw [c12b0] | (simp only [i64_w, i32_w]; rw [c12b0]) | skip)
     by_cases c15 : a1 < 1
     ·rw [if_pos c15] at H
      have c15b0 : decide (a1 < 1) = true := decide_eq_true c15
      clear c15
      have H' := Aside0.mk H
      clear H
      have hcz16_0 : w9.cell? ⟨gb344, 0, none⟩ = some (.int .i64 a0_0) := (blk_cell BK344.out 0).trans rfl
      have hcz16_1 : w9.cell? ⟨gb344, 1, none⟩ = some (.int .i64 a0_1) := (blk_cell BK344.out 1).trans rfl
      have hcz16_2 : w9.cell? ⟨gb344, 2, none⟩ = some (.int .i64 a0_2) := (blk_cell BK344.out 2).trans rfl
      have hfz16_0 := blk_frozen BK344.out 0
      have hfz16_1 := blk_frozen BK344.out 1
      have hfz16_2 := blk_frozen BK344.out 2
      go_wp2_with (first | ((with_reducible refine gate_callee (f := 13) rfl ?_); refine goesL_ (some 19) rfl rfl Try.func13 (by kernel_rfl) rfl #[.agg #[.int .i64 a0_0, .int .i64 a0_1, .int .i64 a0_2]] rfl (by (try simp only [List.map_toArray, List.map_cons, List.map_nil]); first | done | rfl | (simp only [List.length_drop, List.length_take]; rfl)) ?_; (with_reducible refine (leatlaw11_fit.calls k a0_0 a0_1 a0_2 true _ A10.out).mono ?_); rintro e w17 ⟨rfl, hb⟩; refine ⟨_, rfl, ?_⟩; have n0_ := Aside0.mk (blk_below (g := gb344) (o := .cells #[.int .i64 a0_0, .int .i64 a0_1, .int .i64 a0_2] 23 (0, 0)) (by (with_reducible repeat (first | refine blk_drewN ?_ _ | refine blk_drew ?_ | refine blk_alloc ?_ _)); exact BK344.out) hb); have n1_ := Aside0.mk (below_step (by repeat (first | (with_reducible first | exact HB.out | apply below_alloc | apply pw_below_drewN | apply below_drew1 | refine below_set ?_ GE344.out) | exact HB.out)) hb); clear BK344; clear HB; have BK344 := n0_; have HB := n1_; clear n0_ n1_; (try clear hb); (try clear hb2); (try clear hk); (try clear hi)))
      go_meet
      case rel => exact ⟨_, (true), (by first | rfl | (simp; done) | (simp [*]; done)), H', ⟨by first | omega | exact Nat.le_refl _⟩, ⟨by (with_reducible repeat (first | refine blk_drewN ?_ _ | refine blk_drew ?_ | refine blk_alloc ?_ _)); exact BK344.out⟩, ⟨by repeat (first | (with_reducible first | exact HB.out | apply below_alloc | apply pw_below_drewN | apply below_drew1 | refine below_set ?_ GE344.out) | exact HB.out)⟩⟩
     ·rw [if_neg c15] at H
      have c15b0 : decide (a1 < 1) = false := decide_eq_false c15
      clear c15
      have H' := Aside0.mk H
      clear H
      have hcz18_0 : w9.cell? ⟨gb344, 0, none⟩ = some (.int .i64 a0_0) := (blk_cell BK344.out 0).trans rfl
      have hcz18_1 : w9.cell? ⟨gb344, 1, none⟩ = some (.int .i64 a0_1) := (blk_cell BK344.out 1).trans rfl
      have hcz18_2 : w9.cell? ⟨gb344, 2, none⟩ = some (.int .i64 a0_2) := (blk_cell BK344.out 2).trans rfl
      have hfz18_0 := blk_frozen BK344.out 0
      have hfz18_1 := blk_frozen BK344.out 1
      have hfz18_2 := blk_frozen BK344.out 2
      go_wp2_with (first | ((with_reducible refine gate_callee (f := 13) rfl ?_); refine goesL_ (some 19) rfl rfl Try.func13 (by kernel_rfl) rfl #[.agg #[.int .i64 a0_0, .int .i64 a0_1, .int .i64 a0_2]] rfl (by (try simp only [List.map_toArray, List.map_cons, List.map_nil]); first | done | rfl | (simp only [List.length_drop, List.length_take]; rfl)) ?_; (with_reducible refine (leatlaw11_fit.calls k a0_0 a0_1 a0_2 true _ A10.out).mono ?_); rintro e w19 ⟨rfl, hb⟩; refine ⟨_, rfl, ?_⟩; have n0_ := Aside0.mk (blk_below (g := gb344) (o := .cells #[.int .i64 a0_0, .int .i64 a0_1, .int .i64 a0_2] 23 (0, 0)) (by (with_reducible repeat (first | refine blk_drewN ?_ _ | refine blk_drew ?_ | refine blk_alloc ?_ _)); exact BK344.out) hb); have n1_ := Aside0.mk (below_step (by repeat (first | (with_reducible first | exact HB.out | apply below_alloc | apply pw_below_drewN | apply below_drew1 | refine below_set ?_ GE344.out) | exact HB.out)) hb); clear BK344; clear HB; have BK344 := n0_; have HB := n1_; clear n0_ n1_; (try clear hb); (try clear hb2); (try clear hk); (try clear hi)))
      go_meet
      case rel => exact ⟨_, (decide (a1 > 5)), (by first | rfl | (simp; done) | (simp [*]; done)), H', ⟨by first | omega | exact Nat.le_refl _⟩, ⟨by (with_reducible repeat (first | refine blk_drewN ?_ _ | refine blk_drew ?_ | refine blk_alloc ?_ _)); exact BK344.out⟩, ⟨by repeat (first | (with_reducible first | exact HB.out | apply below_alloc | apply pw_below_drewN | apply below_drew1 | refine below_set ?_ GE344.out) | exact HB.out)⟩⟩
   ·replace c11 := Bool.eq_false_iff.mpr c11
    subst c11
    have H1 : (leatlaw11_WindowOrder.j0 k a1 l2 a3 true a0_0 a0_1 a0_2) = some r := by rw [if_neg (show ¬ (false = true) by decide)] at H; exact H
    clear H
    have H := H1
    clear H1
    have H' := Aside0.mk H
    clear H
    have hcz20_0 : w9.cell? ⟨gb344, 0, none⟩ = some (.int .i64 a0_0) := (blk_cell BK344.out 0).trans rfl
    have hcz20_1 : w9.cell? ⟨gb344, 1, none⟩ = some (.int .i64 a0_1) := (blk_cell BK344.out 1).trans rfl
    have hcz20_2 : w9.cell? ⟨gb344, 2, none⟩ = some (.int .i64 a0_2) := (blk_cell BK344.out 2).trans rfl
    have hfz20_0 := blk_frozen BK344.out 0
    have hfz20_1 := blk_frozen BK344.out 1
    have hfz20_2 := blk_frozen BK344.out 2
    go_wp2_with (first | ((with_reducible refine gate_callee (f := 13) rfl ?_); refine goesL_ (some 19) rfl rfl Try.func13 (by kernel_rfl) rfl #[.agg #[.int .i64 a0_0, .int .i64 a0_1, .int .i64 a0_2]] rfl (by (try simp only [List.map_toArray, List.map_cons, List.map_nil]); first | done | rfl | (simp only [List.length_drop, List.length_take]; rfl)) ?_; (with_reducible refine (leatlaw11_fit.calls k a0_0 a0_1 a0_2 false _ A10.out).mono ?_); rintro e w21 ⟨rfl, hb⟩; refine ⟨_, rfl, ?_⟩; have n0_ := Aside0.mk (blk_below (g := gb344) (o := .cells #[.int .i64 a0_0, .int .i64 a0_1, .int .i64 a0_2] 23 (0, 0)) (by (with_reducible repeat (first | refine blk_drewN ?_ _ | refine blk_drew ?_ | refine blk_alloc ?_ _)); exact BK344.out) hb); have n1_ := Aside0.mk (below_step (by repeat (first | (with_reducible first | exact HB.out | apply below_alloc | apply pw_below_drewN | apply below_drew1 | refine below_set ?_ GE344.out) | exact HB.out)) hb); clear BK344; clear HB; have BK344 := n0_; have HB := n1_; clear n0_ n1_; (try clear hb); (try clear hb2); (try clear hk); (try clear hi)))
    go_meet
    case rel => exact ⟨_, (true), (by first | rfl | (simp; done) | (simp [*]; done)), H', ⟨by first | omega | exact Nat.le_refl _⟩, ⟨by (with_reducible repeat (first | refine blk_drewN ?_ _ | refine blk_drew ?_ | refine blk_alloc ?_ _)); exact BK344.out⟩, ⟨by repeat (first | (with_reducible first | exact HB.out | apply below_alloc | apply pw_below_drewN | apply below_drew1 | refine below_set ?_ GE344.out) | exact HB.out)⟩⟩
  case rest =>
   clear HC7
   try clear c1; try clear c2; try clear p2; try clear c5; try clear c6; try clear c11; try clear c12; try clear c12b0; try clear c12b1; try clear c13; try clear c15; try clear c15b0; try clear hcz13_0; try clear hcz13_1; try clear hcz13_2; try clear hcz16_0; try clear hcz16_1; try clear hcz16_2; try clear hcz18_0; try clear hcz18_1; try clear hcz18_2; try clear hcz20_0; try clear hcz20_1; try clear hcz20_2; try clear hfz13_0; try clear hfz13_1; try clear hfz13_2; try clear hfz16_0; try clear hfz16_1; try clear hfz16_2; try clear hfz18_0; try clear hfz18_1; try clear hfz18_2; try clear hfz20_0; try clear hfz20_1; try clear hfz20_2
   obtain ⟨kq, x33_6, rfl, HA, HJ6, BK344, HB⟩ := hcut
   cases kq with
   | zero => exact absurd HA.out (by simp [leatlaw11_WindowOrder.j0])
   | succ kj6 =>
    have H := HA.out
    clear HA
    simp only [leatlaw11_WindowOrder.j0] at H
    by_cases c22 : x33_6 = true
    ·subst c22
     have H1 : (some true) = some r := by rw [if_pos rfl] at H; exact H
     clear H
     have H := H1
     clear H1
     obtain rfl := Option.some.inj H
     go_wp2
     go_ret
     exact ⟨by first | rfl | (simp [errW_none, errW_some] <;> rfl) | (simp [*, errW_none, errW_some] <;> rfl), by repeat (first | (with_reducible first | exact HB.out | apply below_alloc | apply pw_below_drewN | apply below_drew1 | refine below_set ?_ GE344.out) | exact HB.out)⟩
    ·replace c22 := Bool.eq_false_iff.mpr c22
     subst c22
     have H1 : (if ([] : List (S37)).length + l2.length < 5864062014805 then (leatlaw11_WindowOrder.l0 kj6 a1 l2 a3 (([] : List (S37)) ++ l2) 0 a0_0 a0_1 a0_2) else (none)) = some r := by rw [if_neg (show ¬ (false = true) by decide)] at H; exact H
     clear H
     have H := H1
     clear H1
     by_cases c23 : ([] : List (S37)).length + l2.length < 5864062014805
     ·rw [if_pos c23] at H
      have LMc23 := Aside0.mk c23
      clear c23
      obtain ⟨y347, hy347⟩ : ∃ y_ : List (S37), y_ = (([] : List (S37)) ++ l2) := ⟨_, rfl⟩
      replace H : (leatlaw11_WindowOrder.l0 kj6 a1 l2 a3 y347 0 a0_0 a0_1 a0_2) = some r := by first | (rw [hy347]; with_reducible exact H) | (have H2_ := (Option.bind_some _ _).symm.trans H; rw [hy347]; with_reducible exact H2_) | (have H2_ := (Option.bind_some _ _).symm.trans H; with_reducible exact H2_) | with_reducible exact H | (rw [hy347]; exact H) | exact H
      have Ny347 := Aside0.mk hy347
      clear hy347
      have H' := Aside0.mk H
      clear H
      go_wp2_with (first | ((with_reducible refine gate_builtin (b := .append) (xs := #[.const (.slice none 0 0), .tmp 34]) rfl ?_); (try (refine gate_guard (by rfl) ?_; dsimp only)); at_builtin; refine Kd.R_append_rows k37 (w0 := w) w.heap.size rfl (.const (.slice none 0 0)) (.tmp 34) 33 37 (.agg #[(.int .i64 0), (.int .i64 0), (.int .i64 0)]) 24 rfl Try.underlying33 info37 rfl (by decide) (by omega) (.slice none 0 0) ([] : List (S37)) l2 _ _ _ (fun _ => True) (fun _ => False) rfl rfl ?aO ?aR (fun _ _ h => h) (fun _ h => h.elim) ?aF ?aB ?aS ?aL ?_; (case aR => repeat (first | exact (Kd.C_below HR2.out HB.out) | (with_reducible refine Kd.C_alloc ?_ _) | (with_reducible refine Kd.C_drewN ?_ _) | (with_reducible refine Kd.C_drew ?_))); (case aB => exact (by repeat (first | (with_reducible first | exact HB.out | apply below_alloc | apply pw_below_drewN | apply below_drew1 | refine below_set ?_ GE344.out) | exact HB.out))); (case aF => exact (fun _ _ => trivial)); (case aO => exact ((Kd.R_nil _ _ _ _ (fun _ => True)))); (case aS => exact (below_size (by repeat (first | (with_reducible first | exact HB.out | apply below_alloc | apply pw_below_drewN | apply below_drew1 | refine below_set ?_ GE344.out) | exact HB.out)))); (case aL => have := LMc23.out; omega); intro v348 w24 ho hb hg hat; rw [← Ny347.out] at ho; have n0_ := Aside0.mk (blk_grown (g := gb344) (o := .cells #[.int .i64 a0_0, .int .i64 a0_1, .int .i64 a0_2] 23 (0, 0)) (by (with_reducible repeat (first | refine blk_drewN ?_ _ | refine blk_drew ?_ | refine blk_alloc ?_ _)); exact BK344.out) hg (by simp [Value.ownBlock])); have n1_ := Aside0.mk (hb); have n2_ := Aside0.mk (ho); clear BK344; clear HB; have BK344 := n0_; have HB := n1_; have HO349 := n2_; clear n0_ n1_ n2_; clear ho hb hg hat))
      go_loopg [10] kj6 (fun kq v10 w' => ∃ (x9_2 : List (S37)) (x10_2 : Int), v10 = .int .i64 x10_2 ∧ Aside0 (leatlaw11_WindowOrder.l0 kq a1 l2 a3 x9_2 x10_2 a0_0 a0_1 a0_2 = some r) ∧ Aside0 (kq ≤ kj6) ∧ Aside0 (Kd.R k37 37 w' w.heap.size (fun _ => True) v348 x9_2) ∧ Aside0 (w'.heap[gb344]? = some (.cells #[.int .i64 a0_0, .int .i64 a0_1, .int .i64 a0_2] 23 (0, 0))) ∧ Aside0 (Below w.heap.size w w'))
      case atStart => exact ⟨(y347), (0), (by first | rfl | (simp; done) | (simp [*]; done)), H', ⟨Nat.le_refl _⟩, ⟨by (with_reducible repeat (first | apply Kd.R_alloc | apply Kd.R_drewN | apply Kd.R_drew)); exact HO349.out⟩, ⟨by (with_reducible repeat (first | refine blk_drewN ?_ _ | refine blk_drew ?_ | refine blk_alloc ?_ _)); exact BK344.out⟩, ⟨by repeat (first | (with_reducible first | exact HB.out | apply below_alloc | apply pw_below_drewN | apply below_drew1 | refine below_set ?_ GE344.out) | exact HB.out)⟩⟩
      case round =>
       clear H'
       try clear c1; try clear c2; try clear p2; try clear c5; try clear c6; try clear c11; try clear c12; try clear c12b0; try clear c12b1; try clear c13; try clear c15; try clear c15b0; try clear c22; try clear c23; try clear hcz13_0; try clear hcz13_1; try clear hcz13_2; try clear hcz16_0; try clear hcz16_1; try clear hcz16_2; try clear hcz18_0; try clear hcz18_1; try clear hcz18_2; try clear hcz20_0; try clear hcz20_1; try clear hcz20_2; try clear hfz13_0; try clear hfz13_1; try clear hfz13_2; try clear hfz16_0; try clear hfz16_1; try clear hfz16_2; try clear hfz18_0; try clear hfz18_1; try clear hfz18_2; try clear hfz20_0; try clear hfz20_1; try clear hfz20_2; try clear p2
       obtain ⟨x9_2, x10_2, rfl, HA, HK2, HO_9, BK344, HB⟩ := hrel
       cases gk with
       | zero => exact absurd HA.out (by simp [leatlaw11_WindowOrder.l0])
       | succ k2 =>
        have H := HA.out
        clear HA
        simp only [leatlaw11_WindowOrder.l0] at H
        by_cases c25 : x10_2 < (x9_2.length : Int)
        ·rw [if_pos c25] at H
         have c25b0 : decide (x10_2 < (x9_2.length : Int)) = true := decide_eq_true c25
         clear c25
         replace H := Option.bind_eq_some_iff.mp H
         obtain ⟨t350, A260, H⟩ := H
         replace H : (if (x9_2.length : Int) = 0 then (none) else (if 0 ≤ (Int.tmod (wrap64 (t350 + (wrap64 (7 * x10_2)))) (x9_2.length : Int)) then (if (Int.tmod (wrap64 (t350 + (wrap64 (7 * x10_2)))) (x9_2.length : Int)) < (x9_2.length : Int) then (if 0 ≤ x10_2 then (leatlaw11_WindowOrder.l0 k2 a1 l2 a3 ((x9_2.set (x10_2 : Int).toNat (⟨(rd_T37 x9_2 (Int.tmod (wrap64 (t350 + (wrap64 (7 * x10_2)))) (x9_2.length : Int))).f0, (rd_T37 x9_2 (Int.tmod (wrap64 (t350 + (wrap64 (7 * x10_2)))) (x9_2.length : Int))).f1, (rd_T37 x9_2 (Int.tmod (wrap64 (t350 + (wrap64 (7 * x10_2)))) (x9_2.length : Int))).f2⟩ : S37)).set ((Int.tmod (wrap64 (t350 + (wrap64 (7 * x10_2)))) (x9_2.length : Int)) : Int).toNat (⟨(rd_T37 x9_2 x10_2).f0, (rd_T37 x9_2 x10_2).f1, (rd_T37 x9_2 x10_2).f2⟩ : S37)) (wrap64 (x10_2 + 1)) a0_0 a0_1 a0_2) else (none)) else (none)) else (none))) = some r := H
         have A26 := Aside0.mk A260
         clear A260
         by_cases c27 : (x9_2.length : Int) = 0
         ·rw [if_pos c27] at H
          exact absurd H (by simp)
         ·rw [if_neg c27] at H
          have c27b0 : ((x9_2.length : Int) == 0) = false := beq_eq_false_iff_ne.mpr c27
          have c27b1 : ((x9_2.length : Int) != 0) = true := bne_iff_ne.mpr c27
          have c27b2 : ¬ (x9_2 = []) := fun h_ => c27 (by rw [h_]; rfl)
          obtain ⟨ji28, hji28⟩ : ∃ j_ : Int, (Int.tmod (wrap64 (t350 + (wrap64 (7 * x10_2)))) (x9_2.length : Int)) = j_ := ⟨_, rfl⟩
          replace H : (if 0 ≤ (ji28) then (if (ji28) < (x9_2.length : Int) then (if 0 ≤ x10_2 then (leatlaw11_WindowOrder.l0 k2 a1 l2 a3 ((x9_2.set (x10_2 : Int).toNat (⟨(rd_T37 x9_2 (ji28)).f0, (rd_T37 x9_2 (ji28)).f1, (rd_T37 x9_2 (ji28)).f2⟩ : S37)).set ((ji28) : Int).toNat (⟨(rd_T37 x9_2 x10_2).f0, (rd_T37 x9_2 x10_2).f1, (rd_T37 x9_2 x10_2).f2⟩ : S37)) (wrap64 (x10_2 + 1)) a0_0 a0_1 a0_2) else (none)) else (none)) else (none)) = some r := by first | (rw [hji28] at H; exact H) | (simp only [hji28] at H ⊢; exact H)
          (try rw [hji28] at A26)
          by_cases c29 : 0 ≤ (ji28)
          ·rw [if_pos c29] at H
           have c29b0 : decide (0 ≤ (ji28)) = true := decide_eq_true c29
           clear c29
           by_cases c30 : (ji28) < (x9_2.length : Int)
           ·rw [if_pos c30] at H
            have c30b0 : decide ((ji28) < (x9_2.length : Int)) = true := decide_eq_true c30
            clear c30
            by_cases c31 : 0 ≤ x10_2
            ·rw [if_pos c31] at H
             have c31b0 : decide (0 ≤ x10_2) = true := decide_eq_true c31
             clear c31
             obtain ⟨y353, hy353⟩ : ∃ y_ : List (S37), y_ = (x9_2.set (x10_2 : Int).toNat (⟨(rd_T37 x9_2 (ji28)).f0, (rd_T37 x9_2 (ji28)).f1, (rd_T37 x9_2 (ji28)).f2⟩ : S37)) := ⟨_, rfl⟩
             replace H : (leatlaw11_WindowOrder.l0 k2 a1 l2 a3 (y353.set ((ji28) : Int).toNat (⟨(rd_T37 x9_2 x10_2).f0, (rd_T37 x9_2 x10_2).f1, (rd_T37 x9_2 x10_2).f2⟩ : S37)) (wrap64 (x10_2 + 1)) a0_0 a0_1 a0_2) = some r := by first | (rw [hy353]; with_reducible exact H) | (have H2_ := (Option.bind_some _ _).symm.trans H; rw [hy353]; with_reducible exact H2_) | (have H2_ := (Option.bind_some _ _).symm.trans H; with_reducible exact H2_) | with_reducible exact H | (rw [hy353]; exact H) | exact H
             have Ny353 := Aside0.mk hy353
             clear hy353
             obtain ⟨y354, hy354⟩ : ∃ y_ : List (S37), y_ = (y353.set ((ji28) : Int).toNat (⟨(rd_T37 x9_2 x10_2).f0, (rd_T37 x9_2 x10_2).f1, (rd_T37 x9_2 x10_2).f2⟩ : S37)) := ⟨_, rfl⟩
             replace H : (leatlaw11_WindowOrder.l0 k2 a1 l2 a3 y354 (wrap64 (x10_2 + 1)) a0_0 a0_1 a0_2) = some r := by first | (rw [hy354]; with_reducible exact H) | (have H2_ := (Option.bind_some _ _).symm.trans H; rw [hy354]; with_reducible exact H2_) | (have H2_ := (Option.bind_some _ _).symm.trans H; with_reducible exact H2_) | with_reducible exact H | (rw [hy354]; exact H) | exact H
             have Ny354 := Aside0.mk hy354
             clear hy354
             have H' := Aside0.mk H
             clear H
             obtain ⟨Ao34, co34, eo34⟩ := Kd.R_slice HO_9.out
             subst eo34
             try go_wp2_with (first | ((with_reducible refine gate_callee (f := 24) rfl ?_); refine goesL_ (some 43) rfl rfl Try.func24 (by kernel_rfl) rfl #[.int .i64 a3, .int .i64 1000] rfl (by (try simp only [List.map_toArray, List.map_cons, List.map_nil]); first | done | rfl | (simp only [List.length_drop, List.length_take]; rfl)) ?_; (with_reducible refine (leathelp_Place.calls a3 1000 t350 _ A26.out).mono ?_); rintro e w' ⟨rfl, ⟨nd, rfl⟩⟩; refine ⟨_, rfl, ?_⟩; (try (rw [drewN_self wr]; generalize hq_ : World.drewN wr _ = wr; have n0_ : Aside0 (Kd.R k37 37 wr w.heap.size (fun _ => True) (.slice Ao34 x9_2.length co34) x9_2) := ⟨by rw [← hq_]; exact (by (with_reducible repeat (first | apply Kd.R_alloc | apply Kd.R_drewN | apply Kd.R_drew)); exact HO_9.out)⟩; have n1_ : Aside0 (wr.heap[gb344]? = some (.cells #[.int .i64 a0_0, .int .i64 a0_1, .int .i64 a0_2] 23 (0, 0))) := ⟨by rw [← hq_]; exact (by (with_reducible repeat (first | refine blk_drewN ?_ _ | refine blk_drew ?_ | refine blk_alloc ?_ _)); exact BK344.out)⟩; have n2_ : Aside0 (Below w.heap.size w wr) := ⟨by rw [← hq_]; exact (by repeat (first | (with_reducible first | exact HB.out | apply below_alloc | apply pw_below_drewN | apply below_drew1 | refine below_set ?_ GE344.out) | exact HB.out))⟩; clear HO_9 BK344 HB hq_; have HO_9 := n0_; have BK344 := n1_; have HB := n2_; clear n0_ n1_ n2_))))
             have n0_ := Aside0.mk (Kd.R_drew HO_9.out)
             have n1_ := Aside0.mk (blk_drew BK344.out)
             have n2_ := Aside0.mk (below_drew1 HB.out)
             clear HO_9
             clear BK344
             clear HB
             have HO_9 := n0_
             have BK344 := n1_
             have HB := n2_
             clear n0_ n1_ n2_
             have p351 : 0 ≤ ((ji28) : Int) := of_decide_eq_true (by first | (with_reducible assumption) | assumption)
             have q351 : (ji28) < (x9_2.length : Int) := of_decide_eq_true (by first | (with_reducible assumption) | assumption)
             obtain ⟨ad351, e351, hx351_0, hx351_1, hx351_2⟩ := at_T37 (Kd.R_reads' HO_9.out).2.2 (ji28) p351 q351
             cases e351
             replace p351 := eq_true p351
             replace q351 := eq_true q351
             have p352 : 0 ≤ (x10_2 : Int) := of_decide_eq_true (by first | (with_reducible assumption) | assumption)
             have q352 : x10_2 < (x9_2.length : Int) := of_decide_eq_true (by first | (with_reducible assumption) | assumption)
             obtain ⟨ad352, e352, hx352_0, hx352_1, hx352_2⟩ := at_T37 (Kd.R_reads' HO_9.out).2.2 x10_2 p352 q352
             obtain rfl : ad351 = ad352 := (by injection e352)
             replace p352 := eq_true p352
             replace q352 := eq_true q352
             have p32 : 0 ≤ (x10_2 : Int) := of_decide_eq_true (by first | (with_reducible assumption) | assumption)
             have q32 : (x10_2 : Int) < ((x9_2.length : Int) : Int) := of_decide_eq_true (by first | (with_reducible assumption) | assumption)
             obtain ⟨go32, co32, eo32, gb32, gl32, cl32, HG32⟩ := Kd.R_form HO_9.out (by omega)
             (first | cases eo32 | (injection eo32 with ea_ en_ ec_; (first | subst ea_ | (injection ea_ with ea_; subst ea_)); subst ec_; clear en_))
             have GB32 := Aside0.mk gb32
             have GG32 := Aside0.mk HG32
             clear gb32 gl32 HG32
             (first | simp only [add_plain] at hx351_0 | skip)
             (first | simp only [add_plain] at hx351_1 | skip)
             (first | simp only [add_plain] at hx351_2 | skip)
             (first | simp only [add_plain] at hx352_0 | skip)
             (first | simp only [add_plain] at hx352_1 | skip)
             (first | simp only [add_plain] at hx352_2 | skip)
             obtain ⟨ce32, hcl32, hM32, hcc32, hfr32⟩ := Kd.R_elem HO_9.out z37 (x10_2 : Int) p32 q32
             obtain rfl := k37_openM hM32
             have hx32_0 : World.cell? _ ⟨go32, (x10_2 : Int).toNat * 3, none⟩ = some (.int .i64 ((rd_T37 x9_2 x10_2).f0)) := hcc32 0 _ rfl
             have hx32_1 : World.cell? _ ⟨go32, (x10_2 : Int).toNat * 3 + 1, none⟩ = some (.int .i64 ((rd_T37 x9_2 x10_2).f1)) := hcc32 1 _ rfl
             have hx32_2 : World.cell? _ ⟨go32, (x10_2 : Int).toNat * 3 + 2, none⟩ = some (.int .i64 ((rd_T37 x9_2 x10_2).f2)) := hcc32 2 _ rfl
             have hf32_0 : World.frozen? _ ⟨go32, (x10_2 : Int).toNat * 3, none⟩ = false := hfr32 0
             have hf32_1 : World.frozen? _ ⟨go32, (x10_2 : Int).toNat * 3 + 1, none⟩ = false := hfr32 1
             have hf32_2 : World.frozen? _ ⟨go32, (x10_2 : Int).toNat * 3 + 2, none⟩ = false := hfr32 2
             clear hcl32 hcc32 hfr32 hM32
             replace p32 := eq_true p32
             replace q32 := eq_true q32
             obtain ⟨ce36, hcl36, hM36, hcc36, hfr36⟩ := Kd.R_elem HO_9.out z37 (x10_2 : Int) (of_decide_eq_true (by first | (with_reducible assumption) | assumption)) (by have h_ : (x10_2 : Int) < ((x9_2.length : Int) : Int) := of_decide_eq_true (by first | (with_reducible assumption) | assumption); first | exact h_ | (have e_ := (Kd.R_reads' HO_9.out).1; omega) | simpa using h_)
             obtain rfl := k37_openM hM36
             have HP36 := (Kd.R_seg HO_9.out (x10_2 : Int) (of_decide_eq_true (by first | (with_reducible assumption) | assumption)) (by have h_ : (x10_2 : Int) < ((x9_2.length : Int) : Int) := of_decide_eq_true (by first | (with_reducible assumption) | assumption); first | exact h_ | (have e_ := (Kd.R_reads' HO_9.out).1; omega) | simpa using h_) (seg := [.int .i64 ((rd_T37 x9_2 (ji28)).f0), .int .i64 ((rd_T37 x9_2 (ji28)).f1), .int .i64 ((rd_T37 x9_2 (ji28)).f2)]) (j := 0) hcl36 hcc36 (show 3 ≤ 3 from by decide) (x' := (⟨(rd_T37 x9_2 (ji28)).f0, (rd_T37 x9_2 (ji28)).f1, (rd_T37 x9_2 (ji28)).f2⟩ : S37)) (k37_mkM _ _ _ (⟨(rd_T37 x9_2 (ji28)).f0, (rd_T37 x9_2 (ji28)).f1, (rd_T37 x9_2 (ji28)).f2⟩ : S37) ) (fun _ hk => hk)).1
             rw [← Ny353.out] at HP36
             have HQ36 := Aside0.mk HP36
             clear hcl36 hcc36 hfr36 hM36 HP36
             have p33 : 0 ≤ ((ji28) : Int) := of_decide_eq_true (by first | (with_reducible assumption) | assumption)
             have q33 : ((ji28) : Int) < ((x9_2.length : Int) : Int) := of_decide_eq_true (by first | (with_reducible assumption) | assumption)
             obtain ⟨ce33, hcl33, hM33, hcc33, hfr33⟩ := Kd.R_elem HQ36.out z37 ((ji28) : Int) p33 q33
             obtain rfl := k37_openM hM33
             have hx33_0 : World.cell? _ ⟨go32, ((ji28) : Int).toNat * 3, none⟩ = some (.int .i64 ((rd_T37 y353 (ji28)).f0)) := hcc33 0 _ rfl
             have hx33_1 : World.cell? _ ⟨go32, ((ji28) : Int).toNat * 3 + 1, none⟩ = some (.int .i64 ((rd_T37 y353 (ji28)).f1)) := hcc33 1 _ rfl
             have hx33_2 : World.cell? _ ⟨go32, ((ji28) : Int).toNat * 3 + 2, none⟩ = some (.int .i64 ((rd_T37 y353 (ji28)).f2)) := hcc33 2 _ rfl
             have hf33_0 : World.frozen? _ ⟨go32, ((ji28) : Int).toNat * 3, none⟩ = false := hfr33 0
             have hf33_1 : World.frozen? _ ⟨go32, ((ji28) : Int).toNat * 3 + 1, none⟩ = false := hfr33 1
             have hf33_2 : World.frozen? _ ⟨go32, ((ji28) : Int).toNat * 3 + 2, none⟩ = false := hfr33 2
             clear hcl33 hcc33 hfr33 hM33
             replace p33 := eq_true p33
             replace q33 := eq_true q33
             obtain ⟨ce37, hcl37, hM37, hcc37, hfr37⟩ := Kd.R_elem HQ36.out z37 ((ji28) : Int) (of_decide_eq_true (by first | (with_reducible assumption) | assumption)) (by have h_ : ((ji28) : Int) < ((x9_2.length : Int) : Int) := of_decide_eq_true (by first | (with_reducible assumption) | assumption); first | exact h_ | (have e_ := (Kd.R_reads' HO_9.out).1; omega) | simpa using h_)
             obtain rfl := k37_openM hM37
             have HP37 := (Kd.R_seg HQ36.out ((ji28) : Int) (of_decide_eq_true (by first | (with_reducible assumption) | assumption)) (by have h_ : ((ji28) : Int) < ((x9_2.length : Int) : Int) := of_decide_eq_true (by first | (with_reducible assumption) | assumption); first | exact h_ | (have e_ := (Kd.R_reads' HO_9.out).1; omega) | simpa using h_) (seg := [.int .i64 ((rd_T37 x9_2 x10_2).f0), .int .i64 ((rd_T37 x9_2 x10_2).f1), .int .i64 ((rd_T37 x9_2 x10_2).f2)]) (j := 0) hcl37 hcc37 (show 3 ≤ 3 from by decide) (x' := (⟨(rd_T37 x9_2 x10_2).f0, (rd_T37 x9_2 x10_2).f1, (rd_T37 x9_2 x10_2).f2⟩ : S37)) (k37_mkM _ _ _ (⟨(rd_T37 x9_2 x10_2).f0, (rd_T37 x9_2 x10_2).f1, (rd_T37 x9_2 x10_2).f2⟩ : S37) ) (fun _ hk => hk)).1
             rw [← Ny354.out] at HP37
             have HQ37 := Aside0.mk HP37
             clear hcl37 hcc37 hfr37 hM37 HP37
             refine start_ (n := 22) (S := fun w' => w'.cell? ⟨go32, ((ji28)).toNat * 3, none⟩ = some (.int .i64 ((rd_T37 x9_2 (ji28)).f0)) ∧ w'.cell? ⟨go32, ((ji28)).toNat * 3 + 1, none⟩ = some (.int .i64 ((rd_T37 x9_2 (ji28)).f1)) ∧ w'.cell? ⟨go32, ((ji28)).toNat * 3 + 2, none⟩ = some (.int .i64 ((rd_T37 x9_2 (ji28)).f2)) ∧ w'.cell? ⟨go32, ((x10_2).toNat * 3), none⟩ = some (.int .i64 ((rd_T37 x9_2 x10_2).f0)) ∧ w'.cell? ⟨go32, ((x10_2).toNat * 3) + 1, none⟩ = some (.int .i64 ((rd_T37 x9_2 x10_2).f1)) ∧ w'.cell? ⟨go32, ((x10_2).toNat * 3) + 2, none⟩ = some (.int .i64 ((rd_T37 x9_2 x10_2).f2))) (ds := [19, 21]) #[false, false, false, false, false, false, false, false, false, false, false, false, false, false, false, false, false, false, false, false, false, false] (by kernel_rfl) rfl rfl ⟨hx351_0, hx351_1, hx351_2, hx352_0, hx352_1, hx352_2⟩ (fun hHeld => ?_); refine with_tabW leatlaw11_WindowOrder.tab10 leatlaw11_WindowOrder.bits10 (fun HT_ HW_ => ?_)
             generalize wr.drew = w35 at HO_9 BK344 HB GG32 HQ36 HQ37 hf32_0 hf32_1 hf32_2 hf33_0 hf33_1 hf33_2 hx32_0 hx32_1 hx32_2 hx33_0 hx33_1 hx33_2 hx351_0 hx351_1 hx351_2 hx352_0 hx352_1 hx352_2 hHeld ⊢
             by_cases hMEQ : ji28 = x10_2
             ·have hMEQ1 := Aside0.mk hMEQ
              clear hMEQ
              refine pure_ (i := 0) (N := some 47) (v := ?_) (a' := ?_) #[true, false, false, false, false, false, false, false, false, false, false, false, false, false, false, false, false, false, false, false, false, false] rfl rfl (any_of HT_.out (by kernel_rfl)) (fun _ _ _ h => h) (Or.inl ⟨by rfl, ?_⟩) ?_ ?_
              rotate_left
              ·intro w'
               go_simp
               with_reducible rfl
              rotate_left
              ·simp only [Act.put, List.setIfInBounds_toArray, List.set_cons_zero, List.set_cons_succ, i64_w, i32_w]
               rfl
              refine pure_ (i := 1) (N := some 48) (v := ?_) (a' := ?_) #[true, true, false, false, false, false, false, false, false, false, false, false, false, false, false, false, false, false, false, false, false, false] rfl rfl (any_of HT_.out (by kernel_rfl)) (fun _ _ _ h => h) (Or.inl ⟨by rfl, ?_⟩) ?_ ?_
              rotate_left
              ·intro w'
               go_simp
               with_reducible rfl
              rotate_left
              ·simp only [Act.put, List.setIfInBounds_toArray, List.set_cons_zero, List.set_cons_succ, i64_w, i32_w]
               rfl
              refine pure_ (i := 2) (N := some 49) (v := ?_) (a' := ?_) #[true, true, true, false, false, false, false, false, false, false, false, false, false, false, false, false, false, false, false, false, false, false] rfl rfl (any_of HT_.out (by kernel_rfl)) (fun _ _ _ h => h) (Or.inl ⟨by rfl, ?_⟩) ?_ ?_
              rotate_left
              ·intro w'
               go_simp
               with_reducible rfl
              rotate_left
              ·simp only [Act.put, List.setIfInBounds_toArray, List.set_cons_zero, List.set_cons_succ, i64_w, i32_w]
               rfl
              refine pure_ (i := 3) (N := some 50) (v := ?_) (a' := ?_) #[true, true, true, true, false, false, false, false, false, false, false, false, false, false, false, false, false, false, false, false, false, false] rfl rfl (any_of HT_.out (by kernel_rfl)) (fun _ _ _ h => h) (Or.inl ⟨by rfl, ?_⟩) ?_ ?_
              rotate_left
              ·intro w'
               go_simp
               with_reducible rfl
              rotate_left
              ·simp only [Act.put, List.setIfInBounds_toArray, List.set_cons_zero, List.set_cons_succ, i64_w, i32_w]
               rfl
              refine pure_ (i := 4) (N := some 51) (v := ?_) (a' := ?_) #[true, true, true, true, true, false, false, false, false, false, false, false, false, false, false, false, false, false, false, false, false, false] rfl rfl (any_of HT_.out (by kernel_rfl)) (fun _ _ _ h => h) (Or.inl ⟨by rfl, ?_⟩) ?_ ?_
              rotate_left
              ·intro w'
               go_simp
               with_reducible rfl
              rotate_left
              ·simp only [Act.put, List.setIfInBounds_toArray, List.set_cons_zero, List.set_cons_succ, i64_w, i32_w]
               rfl
              refine pure_ (i := 5) (N := some 52) (v := ?_) (a' := ?_) #[true, true, true, true, true, true, false, false, false, false, false, false, false, false, false, false, false, false, false, false, false, false] rfl rfl (any_of HT_.out (by kernel_rfl)) (fun _ _ _ h => h) (Or.inl ⟨by rfl, ?_⟩) ?_ ?_
              rotate_left
              ·intro w'
               go_simp
               with_reducible rfl
              rotate_left
              ·simp only [Act.put, List.setIfInBounds_toArray, List.set_cons_zero, List.set_cons_succ, i64_w, i32_w]
               rfl
              refine pure_ (i := 6) (N := some 53) (v := ?_) (a' := ?_) #[true, true, true, true, true, true, true, false, false, false, false, false, false, false, false, false, false, false, false, false, false, false] rfl rfl (any_of HT_.out (by kernel_rfl)) (fun _ _ _ h => h) (Or.inl ⟨by rfl, ?_⟩) ?_ ?_
              rotate_left
              ·intro w'
               go_simp
               with_reducible rfl
              rotate_left
              ·simp only [Act.put, List.setIfInBounds_toArray, List.set_cons_zero, List.set_cons_succ, i64_w, i32_w]
               rfl
              refine pure_ (i := 7) (N := some 54) (v := ?_) (a' := ?_) #[true, true, true, true, true, true, true, true, false, false, false, false, false, false, false, false, false, false, false, false, false, false] rfl rfl (any_of HT_.out (by kernel_rfl)) (fun _ _ _ h => h) (Or.inl ⟨by rfl, ?_⟩) ?_ ?_
              rotate_left
              ·intro w'
               go_simp
               with_reducible rfl
              rotate_left
              ·simp only [Act.put, List.setIfInBounds_toArray, List.set_cons_zero, List.set_cons_succ, i64_w, i32_w]
               rfl
              refine pure_ (i := 8) (N := some 55) (v := ?_) (a' := ?_) #[true, true, true, true, true, true, true, true, true, false, false, false, false, false, false, false, false, false, false, false, false, false] rfl rfl (any_of HT_.out (by kernel_rfl)) (fun _ _ _ h => h) (Or.inl ⟨by rfl, ?_⟩) ?_ ?_
              rotate_left
              ·intro w'
               go_simp
               with_reducible rfl
              rotate_left
              ·simp only [Act.put, List.setIfInBounds_toArray, List.set_cons_zero, List.set_cons_succ, i64_w, i32_w]
               rfl
              refine pure_ (i := 9) (N := some 56) (v := ?_) (a' := ?_) #[true, true, true, true, true, true, true, true, true, true, false, false, false, false, false, false, false, false, false, false, false, false] rfl rfl (any_of HT_.out (by kernel_rfl)) (fun _ _ _ h => h) (Or.inl ⟨by rfl, ?_⟩) ?_ ?_
              rotate_left
              ·intro w'
               go_simp
               with_reducible rfl
              rotate_left
              ·simp only [Act.put, List.setIfInBounds_toArray, List.set_cons_zero, List.set_cons_succ, i64_w, i32_w]
               rfl
              refine pure_ (i := 10) (N := some 57) (v := ?_) (a' := ?_) #[true, true, true, true, true, true, true, true, true, true, true, false, false, false, false, false, false, false, false, false, false, false] rfl rfl (any_of HT_.out (by kernel_rfl)) (fun _ _ _ h => h) (Or.inl ⟨by rfl, ?_⟩) ?_ ?_
              rotate_left
              ·intro w'
               go_simp
               with_reducible rfl
              rotate_left
              ·simp only [Act.put, List.setIfInBounds_toArray, List.set_cons_zero, List.set_cons_succ, i64_w, i32_w]
               rfl
              refine pure_ (i := 11) (N := some 58) (v := ?_) (a' := ?_) #[true, true, true, true, true, true, true, true, true, true, true, true, false, false, false, false, false, false, false, false, false, false] rfl rfl (any_of HT_.out (by kernel_rfl)) (fun _ _ _ h => h) (Or.inl ⟨by rfl, ?_⟩) ?_ ?_
              rotate_left
              ·intro w'
               go_simp
               with_reducible rfl
              rotate_left
              ·simp only [Act.put, List.setIfInBounds_toArray, List.set_cons_zero, List.set_cons_succ, i64_w, i32_w]
               rfl
              refine pure_ (i := 12) (N := some 59) (v := ?_) (a' := ?_) #[true, true, true, true, true, true, true, true, true, true, true, true, true, false, false, false, false, false, false, false, false, false] rfl rfl (any_of HT_.out (by kernel_rfl)) (fun _ _ _ h => h) (Or.inl ⟨by rfl, ?_⟩) ?_ ?_
              rotate_left
              ·intro w'
               go_simp
               with_reducible rfl
              rotate_left
              ·simp only [Act.put, List.setIfInBounds_toArray, List.set_cons_zero, List.set_cons_succ, i64_w, i32_w]
               rfl
              refine pure_ (i := 14) (N := some 61) (v := ?_) (a' := ?_) #[true, true, true, true, true, true, true, true, true, true, true, true, true, false, true, false, false, false, false, false, false, false] rfl rfl (any_of HT_.out (by kernel_rfl)) (fun _ _ _ h => h) (Or.inl ⟨by rfl, ?_⟩) ?_ ?_
              rotate_left
              ·intro w'
               go_simp
               with_reducible rfl
              rotate_left
              ·simp only [Act.put, List.setIfInBounds_toArray, List.set_cons_zero, List.set_cons_succ, i64_w, i32_w]
               rfl
              refine pure_ (i := 15) (N := some 62) (v := ?_) (a' := ?_) #[true, true, true, true, true, true, true, true, true, true, true, true, true, false, true, true, false, false, false, false, false, false] rfl rfl (any_of HT_.out (by kernel_rfl)) (fun _ _ _ h => h) (Or.inl ⟨by rfl, ?_⟩) ?_ ?_
              rotate_left
              ·intro w'
               go_simp
               with_reducible rfl
              rotate_left
              ·simp only [Act.put, List.setIfInBounds_toArray, List.set_cons_zero, List.set_cons_succ, i64_w, i32_w]
               rfl
              refine pure_ (i := 16) (N := some 63) (v := ?_) (a' := ?_) #[true, true, true, true, true, true, true, true, true, true, true, true, true, false, true, true, true, false, false, false, false, false] rfl rfl (any_of HT_.out (by kernel_rfl)) (fun _ _ _ h => h) (Or.inl ⟨by rfl, ?_⟩) ?_ ?_
              rotate_left
              ·intro w'
               go_simp
               with_reducible rfl
              rotate_left
              ·simp only [Act.put, List.setIfInBounds_toArray, List.set_cons_zero, List.set_cons_succ, i64_w, i32_w]
               rfl
              refine take_ (i := 13) (N := some 60) (v := ?_) (a' := ?_) #[true, true, true, true, true, true, true, true, true, true, true, true, true, true, true, true, true, false, false, false, false, false] rfl rfl (take_ofW HT_.out HW_.out (by kernel_rfl)) (fun _ _ _ h => h) (Or.inl ⟨by rfl, ?_⟩) hHeld ?_ ?_
              rotate_left
              ·rintro w' ⟨s0, s1, s2, s3, s4, s5⟩
               go_simp
               with_reducible rfl
              rotate_left
              ·simp only [Act.put, List.setIfInBounds_toArray, List.set_cons_zero, List.set_cons_succ, i64_w, i32_w]
               rfl
              refine take_ (i := 17) (N := some 64) (v := ?_) (a' := ?_) #[true, true, true, true, true, true, true, true, true, true, true, true, true, true, true, true, true, true, false, false, false, false] rfl rfl (take_ofW HT_.out HW_.out (by kernel_rfl)) (fun _ _ _ h => h) (Or.inl ⟨by rfl, ?_⟩) hHeld ?_ ?_
              rotate_left
              ·rintro w' ⟨s0, s1, s2, s3, s4, s5⟩
               go_simp
               with_reducible rfl
              rotate_left
              ·simp only [Act.put, List.setIfInBounds_toArray, List.set_cons_zero, List.set_cons_succ, i64_w, i32_w]
               rfl
              refine pure_ (i := 18) (N := some 65) (v := ?_) (a' := ?_) #[true, true, true, true, true, true, true, true, true, true, true, true, true, true, true, true, true, true, true, false, false, false] rfl rfl (any_of HT_.out (by kernel_rfl)) (fun _ _ _ h => h) (Or.inl ⟨by rfl, ?_⟩) ?_ ?_
              rotate_left
              ·intro w'
               go_simp
               with_reducible rfl
              rotate_left
              ·simp only [Act.put, List.setIfInBounds_toArray, List.set_cons_zero, List.set_cons_succ, i64_w, i32_w]
               rfl
              refine last_ (i := 19) (N := none) #[true, true, true, true, true, true, true, true, true, true, true, true, true, true, true, true, true, true, true, true, false, false] rfl rfl (one_of HT_.out (by kernel_rfl)) (by decide) (fun K hK => ?_)
              refine skip_ (w1 := ?_) (by rfl) rfl ?_ ?_
              rotate_left
              ·go_simp
               rfl
              refine hK.out _ _ ?_
              clear hK K
              refine pure_ (i := 20) (N := some 66) (v := ?_) (a' := ?_) #[true, true, true, true, true, true, true, true, true, true, true, true, true, true, true, true, true, true, true, true, true, false] rfl rfl (any_of HT_.out (by kernel_rfl)) (fun _ _ _ h => h) (Or.inl ⟨by rfl, ?_⟩) ?_ ?_
              rotate_left
              ·intro w'
               go_simp
               with_reducible rfl
              rotate_left
              ·simp only [Act.put, List.setIfInBounds_toArray, List.set_cons_zero, List.set_cons_succ, i64_w, i32_w]
               rfl
              have hMEQ2 : (ji28 : Int).toNat = (x10_2 : Int).toNat := by rw [hMEQ1.out]
              simp only [hMEQ2] at HQ37
              refine last_ (i := 21) (N := none) #[true, true, true, true, true, true, true, true, true, true, true, true, true, true, true, true, true, true, true, true, true, true] rfl rfl (one_of HT_.out (by kernel_rfl)) (by decide) (fun K hK => ?_)
              refine skip_ (w1 := ?_) (by rfl) rfl ?_ ?_
              rotate_left
              ·go_simp
               rfl
              refine hK.out _ _ ?_
              clear hK K
              refine done_ (done_of HT_.out (by kernel_rfl)) ?_
              try go_wp2
              go_roundg k2
              case measure => have := HJ6.out; have := HK2.out; omega
              case rel => exact ⟨(y354), (wrap64 (x10_2 + 1)), (by first | rfl | (simp; done) | (simp [*]; done)), H', ⟨by have := HJ6.out; have := HK2.out; omega⟩, ⟨by (with_reducible repeat (first | apply Kd.R_alloc | apply Kd.R_drewN | apply Kd.R_drew)); exact HQ37.out⟩, ⟨by (with_reducible repeat (first | refine blk_drewN ?_ _ | refine blk_drew ?_ | refine blk_alloc ?_ _)); refine blk_far ?_ (by have h_ := Kd.R_ne HO_9.out BK344.out (by decide); intro e_; exact h_ (by rw [e_]; rfl)) _; (with_reducible repeat (first | refine blk_drewN ?_ _ | refine blk_drew ?_ | refine blk_alloc ?_ _)); refine blk_far ?_ (by have h_ := Kd.R_ne HO_9.out BK344.out (by decide); intro e_; exact h_ (by rw [e_]; rfl)) _; (with_reducible repeat (first | refine blk_drewN ?_ _ | refine blk_drew ?_ | refine blk_alloc ?_ _)); refine blk_far ?_ (by have h_ := Kd.R_ne HO_9.out BK344.out (by decide); intro e_; exact h_ (by rw [e_]; rfl)) _; (with_reducible repeat (first | refine blk_drewN ?_ _ | refine blk_drew ?_ | refine blk_alloc ?_ _)); refine blk_far ?_ (by have h_ := Kd.R_ne HO_9.out BK344.out (by decide); intro e_; exact h_ (by rw [e_]; rfl)) _; (with_reducible repeat (first | refine blk_drewN ?_ _ | refine blk_drew ?_ | refine blk_alloc ?_ _)); refine blk_far ?_ (by have h_ := Kd.R_ne HO_9.out BK344.out (by decide); intro e_; exact h_ (by rw [e_]; rfl)) _; (with_reducible repeat (first | refine blk_drewN ?_ _ | refine blk_drew ?_ | refine blk_alloc ?_ _)); refine blk_far ?_ (by have h_ := Kd.R_ne HO_9.out BK344.out (by decide); intro e_; exact h_ (by rw [e_]; rfl)) _; (with_reducible repeat (first | refine blk_drewN ?_ _ | refine blk_drew ?_ | refine blk_alloc ?_ _)); exact BK344.out⟩, ⟨by repeat (first | (with_reducible first | exact HB.out | apply below_alloc | apply pw_below_drewN | apply below_drew1 | refine below_set ?_ GB32.out | refine below_set ?_ GB32.out | refine below_set ?_ GB32.out | refine below_set ?_ GB32.out | refine below_set ?_ GB32.out | refine below_set ?_ GB32.out | refine below_set ?_ GE344.out) | exact HB.out)⟩⟩
             ·have hne0 : (0 : Int) ≤ ji28 := of_decide_eq_true (by assumption)
              have hnf0 : (0 : Int) ≤ x10_2 := of_decide_eq_true (by assumption)
              have hne5 : (ji28 : Int).toNat ≠ (x10_2 : Int).toNat := by omega
              have hne6 : (x10_2 : Int).toNat ≠ (ji28 : Int).toNat := by omega
              have hne1 : (ji28 : Int).toNat * 3 ≠ (x10_2 : Int).toNat * 3 := by omega
              have hne2 : (x10_2 : Int).toNat * 3 ≠ (ji28 : Int).toNat * 3 := by omega
              obtain ⟨ceM, hclM, hMM, hccM, hfrM⟩ := Kd.R_elem HO_9.out z37 (ji28 : Int) hne0 (of_decide_eq_true (by assumption))
              obtain rfl := k37_openM hMM
              have hfM0 : World.frozen? _ ⟨go32, (ji28 : Int).toNat * 3, none⟩ = false := hfrM 0
              have hfM1 : World.frozen? _ ⟨go32, (ji28 : Int).toNat * 3 + 1, none⟩ = false := hfrM 1
              have hfM2 : World.frozen? _ ⟨go32, (ji28 : Int).toNat * 3 + 2, none⟩ = false := hfrM 2
              clear hclM hccM hfrM hMM hne0 hnf0
              refine pure_ (i := 0) (N := some 47) (v := ?_) (a' := ?_) #[true, false, false, false, false, false, false, false, false, false, false, false, false, false, false, false, false, false, false, false, false, false] rfl rfl (any_of HT_.out (by kernel_rfl)) (fun _ _ _ h => h) (Or.inl ⟨by rfl, ?_⟩) ?_ ?_
              rotate_left
              ·intro w'
               go_simp
               with_reducible rfl
              rotate_left
              ·simp only [Act.put, List.setIfInBounds_toArray, List.set_cons_zero, List.set_cons_succ, i64_w, i32_w]
               rfl
              refine pure_ (i := 1) (N := some 48) (v := ?_) (a' := ?_) #[true, true, false, false, false, false, false, false, false, false, false, false, false, false, false, false, false, false, false, false, false, false] rfl rfl (any_of HT_.out (by kernel_rfl)) (fun _ _ _ h => h) (Or.inl ⟨by rfl, ?_⟩) ?_ ?_
              rotate_left
              ·intro w'
               go_simp
               with_reducible rfl
              rotate_left
              ·simp only [Act.put, List.setIfInBounds_toArray, List.set_cons_zero, List.set_cons_succ, i64_w, i32_w]
               rfl
              refine pure_ (i := 2) (N := some 49) (v := ?_) (a' := ?_) #[true, true, true, false, false, false, false, false, false, false, false, false, false, false, false, false, false, false, false, false, false, false] rfl rfl (any_of HT_.out (by kernel_rfl)) (fun _ _ _ h => h) (Or.inl ⟨by rfl, ?_⟩) ?_ ?_
              rotate_left
              ·intro w'
               go_simp
               with_reducible rfl
              rotate_left
              ·simp only [Act.put, List.setIfInBounds_toArray, List.set_cons_zero, List.set_cons_succ, i64_w, i32_w]
               rfl
              refine pure_ (i := 3) (N := some 50) (v := ?_) (a' := ?_) #[true, true, true, true, false, false, false, false, false, false, false, false, false, false, false, false, false, false, false, false, false, false] rfl rfl (any_of HT_.out (by kernel_rfl)) (fun _ _ _ h => h) (Or.inl ⟨by rfl, ?_⟩) ?_ ?_
              rotate_left
              ·intro w'
               go_simp
               with_reducible rfl
              rotate_left
              ·simp only [Act.put, List.setIfInBounds_toArray, List.set_cons_zero, List.set_cons_succ, i64_w, i32_w]
               rfl
              refine pure_ (i := 4) (N := some 51) (v := ?_) (a' := ?_) #[true, true, true, true, true, false, false, false, false, false, false, false, false, false, false, false, false, false, false, false, false, false] rfl rfl (any_of HT_.out (by kernel_rfl)) (fun _ _ _ h => h) (Or.inl ⟨by rfl, ?_⟩) ?_ ?_
              rotate_left
              ·intro w'
               go_simp
               with_reducible rfl
              rotate_left
              ·simp only [Act.put, List.setIfInBounds_toArray, List.set_cons_zero, List.set_cons_succ, i64_w, i32_w]
               rfl
              refine pure_ (i := 5) (N := some 52) (v := ?_) (a' := ?_) #[true, true, true, true, true, true, false, false, false, false, false, false, false, false, false, false, false, false, false, false, false, false] rfl rfl (any_of HT_.out (by kernel_rfl)) (fun _ _ _ h => h) (Or.inl ⟨by rfl, ?_⟩) ?_ ?_
              rotate_left
              ·intro w'
               go_simp
               with_reducible rfl
              rotate_left
              ·simp only [Act.put, List.setIfInBounds_toArray, List.set_cons_zero, List.set_cons_succ, i64_w, i32_w]
               rfl
              refine pure_ (i := 6) (N := some 53) (v := ?_) (a' := ?_) #[true, true, true, true, true, true, true, false, false, false, false, false, false, false, false, false, false, false, false, false, false, false] rfl rfl (any_of HT_.out (by kernel_rfl)) (fun _ _ _ h => h) (Or.inl ⟨by rfl, ?_⟩) ?_ ?_
              rotate_left
              ·intro w'
               go_simp
               with_reducible rfl
              rotate_left
              ·simp only [Act.put, List.setIfInBounds_toArray, List.set_cons_zero, List.set_cons_succ, i64_w, i32_w]
               rfl
              refine pure_ (i := 7) (N := some 54) (v := ?_) (a' := ?_) #[true, true, true, true, true, true, true, true, false, false, false, false, false, false, false, false, false, false, false, false, false, false] rfl rfl (any_of HT_.out (by kernel_rfl)) (fun _ _ _ h => h) (Or.inl ⟨by rfl, ?_⟩) ?_ ?_
              rotate_left
              ·intro w'
               go_simp
               with_reducible rfl
              rotate_left
              ·simp only [Act.put, List.setIfInBounds_toArray, List.set_cons_zero, List.set_cons_succ, i64_w, i32_w]
               rfl
              refine pure_ (i := 8) (N := some 55) (v := ?_) (a' := ?_) #[true, true, true, true, true, true, true, true, true, false, false, false, false, false, false, false, false, false, false, false, false, false] rfl rfl (any_of HT_.out (by kernel_rfl)) (fun _ _ _ h => h) (Or.inl ⟨by rfl, ?_⟩) ?_ ?_
              rotate_left
              ·intro w'
               go_simp
               with_reducible rfl
              rotate_left
              ·simp only [Act.put, List.setIfInBounds_toArray, List.set_cons_zero, List.set_cons_succ, i64_w, i32_w]
               rfl
              refine pure_ (i := 9) (N := some 56) (v := ?_) (a' := ?_) #[true, true, true, true, true, true, true, true, true, true, false, false, false, false, false, false, false, false, false, false, false, false] rfl rfl (any_of HT_.out (by kernel_rfl)) (fun _ _ _ h => h) (Or.inl ⟨by rfl, ?_⟩) ?_ ?_
              rotate_left
              ·intro w'
               go_simp
               with_reducible rfl
              rotate_left
              ·simp only [Act.put, List.setIfInBounds_toArray, List.set_cons_zero, List.set_cons_succ, i64_w, i32_w]
               rfl
              refine pure_ (i := 10) (N := some 57) (v := ?_) (a' := ?_) #[true, true, true, true, true, true, true, true, true, true, true, false, false, false, false, false, false, false, false, false, false, false] rfl rfl (any_of HT_.out (by kernel_rfl)) (fun _ _ _ h => h) (Or.inl ⟨by rfl, ?_⟩) ?_ ?_
              rotate_left
              ·intro w'
               go_simp
               with_reducible rfl
              rotate_left
              ·simp only [Act.put, List.setIfInBounds_toArray, List.set_cons_zero, List.set_cons_succ, i64_w, i32_w]
               rfl
              refine pure_ (i := 11) (N := some 58) (v := ?_) (a' := ?_) #[true, true, true, true, true, true, true, true, true, true, true, true, false, false, false, false, false, false, false, false, false, false] rfl rfl (any_of HT_.out (by kernel_rfl)) (fun _ _ _ h => h) (Or.inl ⟨by rfl, ?_⟩) ?_ ?_
              rotate_left
              ·intro w'
               go_simp
               with_reducible rfl
              rotate_left
              ·simp only [Act.put, List.setIfInBounds_toArray, List.set_cons_zero, List.set_cons_succ, i64_w, i32_w]
               rfl
              refine pure_ (i := 12) (N := some 59) (v := ?_) (a' := ?_) #[true, true, true, true, true, true, true, true, true, true, true, true, true, false, false, false, false, false, false, false, false, false] rfl rfl (any_of HT_.out (by kernel_rfl)) (fun _ _ _ h => h) (Or.inl ⟨by rfl, ?_⟩) ?_ ?_
              rotate_left
              ·intro w'
               go_simp
               with_reducible rfl
              rotate_left
              ·simp only [Act.put, List.setIfInBounds_toArray, List.set_cons_zero, List.set_cons_succ, i64_w, i32_w]
               rfl
              refine pure_ (i := 14) (N := some 61) (v := ?_) (a' := ?_) #[true, true, true, true, true, true, true, true, true, true, true, true, true, false, true, false, false, false, false, false, false, false] rfl rfl (any_of HT_.out (by kernel_rfl)) (fun _ _ _ h => h) (Or.inl ⟨by rfl, ?_⟩) ?_ ?_
              rotate_left
              ·intro w'
               go_simp
               with_reducible rfl
              rotate_left
              ·simp only [Act.put, List.setIfInBounds_toArray, List.set_cons_zero, List.set_cons_succ, i64_w, i32_w]
               rfl
              refine pure_ (i := 15) (N := some 62) (v := ?_) (a' := ?_) #[true, true, true, true, true, true, true, true, true, true, true, true, true, false, true, true, false, false, false, false, false, false] rfl rfl (any_of HT_.out (by kernel_rfl)) (fun _ _ _ h => h) (Or.inl ⟨by rfl, ?_⟩) ?_ ?_
              rotate_left
              ·intro w'
               go_simp
               with_reducible rfl
              rotate_left
              ·simp only [Act.put, List.setIfInBounds_toArray, List.set_cons_zero, List.set_cons_succ, i64_w, i32_w]
               rfl
              refine pure_ (i := 16) (N := some 63) (v := ?_) (a' := ?_) #[true, true, true, true, true, true, true, true, true, true, true, true, true, false, true, true, true, false, false, false, false, false] rfl rfl (any_of HT_.out (by kernel_rfl)) (fun _ _ _ h => h) (Or.inl ⟨by rfl, ?_⟩) ?_ ?_
              rotate_left
              ·intro w'
               go_simp
               with_reducible rfl
              rotate_left
              ·simp only [Act.put, List.setIfInBounds_toArray, List.set_cons_zero, List.set_cons_succ, i64_w, i32_w]
               rfl
              refine take_ (i := 13) (N := some 60) (v := ?_) (a' := ?_) #[true, true, true, true, true, true, true, true, true, true, true, true, true, true, true, true, true, false, false, false, false, false] rfl rfl (take_ofW HT_.out HW_.out (by kernel_rfl)) (fun _ _ _ h => h) (Or.inl ⟨by rfl, ?_⟩) hHeld ?_ ?_
              rotate_left
              ·rintro w' ⟨s0, s1, s2, s3, s4, s5⟩
               go_simp
               with_reducible rfl
              rotate_left
              ·simp only [Act.put, List.setIfInBounds_toArray, List.set_cons_zero, List.set_cons_succ, i64_w, i32_w]
               rfl
              refine take_ (i := 17) (N := some 64) (v := ?_) (a' := ?_) #[true, true, true, true, true, true, true, true, true, true, true, true, true, true, true, true, true, true, false, false, false, false] rfl rfl (take_ofW HT_.out HW_.out (by kernel_rfl)) (fun _ _ _ h => h) (Or.inl ⟨by rfl, ?_⟩) hHeld ?_ ?_
              rotate_left
              ·rintro w' ⟨s0, s1, s2, s3, s4, s5⟩
               go_simp
               with_reducible rfl
              rotate_left
              ·simp only [Act.put, List.setIfInBounds_toArray, List.set_cons_zero, List.set_cons_succ, i64_w, i32_w]
               rfl
              refine pure_ (i := 18) (N := some 65) (v := ?_) (a' := ?_) #[true, true, true, true, true, true, true, true, true, true, true, true, true, true, true, true, true, true, true, false, false, false] rfl rfl (any_of HT_.out (by kernel_rfl)) (fun _ _ _ h => h) (Or.inl ⟨by rfl, ?_⟩) ?_ ?_
              rotate_left
              ·intro w'
               go_simp
               with_reducible rfl
              rotate_left
              ·simp only [Act.put, List.setIfInBounds_toArray, List.set_cons_zero, List.set_cons_succ, i64_w, i32_w]
               rfl
              refine last_ (i := 19) (N := none) #[true, true, true, true, true, true, true, true, true, true, true, true, true, true, true, true, true, true, true, true, false, false] rfl rfl (one_of HT_.out (by kernel_rfl)) (by decide) (fun K hK => ?_)
              refine skip_ (w1 := ?_) (by rfl) rfl ?_ ?_
              rotate_left
              ·go_simp
               rfl
              refine hK.out _ _ ?_
              clear hK K
              refine pure_ (i := 20) (N := some 66) (v := ?_) (a' := ?_) #[true, true, true, true, true, true, true, true, true, true, true, true, true, true, true, true, true, true, true, true, true, false] rfl rfl (any_of HT_.out (by kernel_rfl)) (fun _ _ _ h => h) (Or.inl ⟨by rfl, ?_⟩) ?_ ?_
              rotate_left
              ·intro w'
               go_simp
               with_reducible rfl
              rotate_left
              ·simp only [Act.put, List.setIfInBounds_toArray, List.set_cons_zero, List.set_cons_succ, i64_w, i32_w]
               rfl
              refine last_ (i := 21) (N := none) #[true, true, true, true, true, true, true, true, true, true, true, true, true, true, true, true, true, true, true, true, true, true] rfl rfl (one_of HT_.out (by kernel_rfl)) (by decide) (fun K hK => ?_)
              refine skip_ (w1 := ?_) (by rfl) rfl ?_ ?_
              rotate_left
              ·go_simp
               rfl
              refine hK.out _ _ ?_
              clear hK K
              refine done_ (done_of HT_.out (by kernel_rfl)) ?_
              try go_wp2
              go_roundg k2
              case measure => have := HJ6.out; have := HK2.out; omega
              case rel => exact ⟨(y354), (wrap64 (x10_2 + 1)), (by first | rfl | (simp; done) | (simp [*]; done)), H', ⟨by have := HJ6.out; have := HK2.out; omega⟩, ⟨by (with_reducible repeat (first | apply Kd.R_alloc | apply Kd.R_drewN | apply Kd.R_drew)); exact HQ37.out⟩, ⟨by (with_reducible repeat (first | refine blk_drewN ?_ _ | refine blk_drew ?_ | refine blk_alloc ?_ _)); refine blk_far ?_ (by have h_ := Kd.R_ne HO_9.out BK344.out (by decide); intro e_; exact h_ (by rw [e_]; rfl)) _; (with_reducible repeat (first | refine blk_drewN ?_ _ | refine blk_drew ?_ | refine blk_alloc ?_ _)); refine blk_far ?_ (by have h_ := Kd.R_ne HO_9.out BK344.out (by decide); intro e_; exact h_ (by rw [e_]; rfl)) _; (with_reducible repeat (first | refine blk_drewN ?_ _ | refine blk_drew ?_ | refine blk_alloc ?_ _)); refine blk_far ?_ (by have h_ := Kd.R_ne HO_9.out BK344.out (by decide); intro e_; exact h_ (by rw [e_]; rfl)) _; (with_reducible repeat (first | refine blk_drewN ?_ _ | refine blk_drew ?_ | refine blk_alloc ?_ _)); refine blk_far ?_ (by have h_ := Kd.R_ne HO_9.out BK344.out (by decide); intro e_; exact h_ (by rw [e_]; rfl)) _; (with_reducible repeat (first | refine blk_drewN ?_ _ | refine blk_drew ?_ | refine blk_alloc ?_ _)); refine blk_far ?_ (by have h_ := Kd.R_ne HO_9.out BK344.out (by decide); intro e_; exact h_ (by rw [e_]; rfl)) _; (with_reducible repeat (first | refine blk_drewN ?_ _ | refine blk_drew ?_ | refine blk_alloc ?_ _)); refine blk_far ?_ (by have h_ := Kd.R_ne HO_9.out BK344.out (by decide); intro e_; exact h_ (by rw [e_]; rfl)) _; (with_reducible repeat (first | refine blk_drewN ?_ _ | refine blk_drew ?_ | refine blk_alloc ?_ _)); exact BK344.out⟩, ⟨by repeat (first | (with_reducible first | exact HB.out | apply below_alloc | apply pw_below_drewN | apply below_drew1 | refine below_set ?_ GB32.out | refine below_set ?_ GB32.out | refine below_set ?_ GB32.out | refine below_set ?_ GB32.out | refine below_set ?_ GB32.out | refine below_set ?_ GB32.out | refine below_set ?_ GE344.out) | exact HB.out)⟩⟩
            ·rw [if_neg c31] at H
             exact absurd H (by simp)
           ·rw [if_neg c30] at H
            exact absurd H (by simp)
          ·rw [if_neg c29] at H
           exact absurd H (by simp)
        ·rw [if_neg c25] at H
         have c25b0 : decide (x10_2 < (x9_2.length : Int)) = false := decide_eq_false c25
         clear c25
         have H' := Aside0.mk H
         clear H
         obtain ⟨Ao38, co38, eo38⟩ := Kd.R_slice HO_9.out
         subst eo38
         go_wp2
         go_loopg [12, 13, 14] k2 (fun kq v12 v13 v14 w' => ∃ (x12_3 : List (S46)) (x13_3 : List (S46)) (x14_3 : Int), v14 = .int .i64 x14_3 ∧ Aside0 (leatlaw11_WindowOrder.l1 kq a1 l2 x9_2 x12_3 x13_3 x14_3 a0_0 a0_1 a0_2 = some r) ∧ Aside0 (kq ≤ k2) ∧ Aside0 (Kd.R k37 37 w' w.heap.size (fun _ => True) (.slice Ao38 x9_2.length co38) x9_2) ∧ Aside0 (Kd.R k46 46 w' w.heap.size (fun k_ => some k_ ≠ (v13 : Value).ownBlock) v12 x12_3) ∧ Aside0 (Kd.R k46 46 w' w.heap.size (fun k_ => some k_ ≠ (v12 : Value).ownBlock) v13 x13_3) ∧ Aside0 (w'.heap[gb344]? = some (.cells #[.int .i64 a0_0, .int .i64 a0_1, .int .i64 a0_2] 23 (0, 0))) ∧ Aside0 (Below w.heap.size w w'))
         case atStart => exact ⟨(([] : List (S46))), (([] : List (S46))), (0), (by first | rfl | (simp; done) | (simp [*]; done)), H', ⟨Nat.le_refl _⟩, ⟨by (with_reducible repeat (first | apply Kd.R_alloc | apply Kd.R_drewN | apply Kd.R_drew)); exact HO_9.out⟩, ⟨by first | exact Kd.R_nil _ _ _ _ _ | exact Kd.N_nil _ _ _ _ _ | exact Kd.V_nil _ _ _ _ _ | exact Kd.Q_nil _ _ _ _ _ | exact Kd.S_nil _ _ _ _ _⟩, ⟨by first | exact Kd.R_nil _ _ _ _ _ | exact Kd.N_nil _ _ _ _ _ | exact Kd.V_nil _ _ _ _ _ | exact Kd.Q_nil _ _ _ _ _ | exact Kd.S_nil _ _ _ _ _⟩, ⟨by (with_reducible repeat (first | refine blk_drewN ?_ _ | refine blk_drew ?_ | refine blk_alloc ?_ _)); exact BK344.out⟩, ⟨by repeat (first | (with_reducible first | exact HB.out | apply below_alloc | apply pw_below_drewN | apply below_drew1 | refine below_set ?_ GE344.out) | exact HB.out)⟩⟩
         case round =>
          clear H'
          try clear c1; try clear c2; try clear p2; try clear c3; try clear p3; try clear q3; try clear hx3; try clear c5; try clear c6; try clear p6; try clear c11; try clear c12; try clear c12b0; try clear c12b1; try clear c13; try clear c15; try clear c15b0; try clear c22; try clear c23; try clear c24; try clear c25; try clear c25b0; try clear c27; try clear c27b0; try clear c27b1; try clear c27b2; try clear c29; try clear c29b0; try clear c30; try clear c30b0; try clear c31; try clear c31b0; try clear c32; try clear p32; try clear q32; try clear hx32; try clear hf32; try clear c33; try clear p33; try clear q33; try clear hx33; try clear hf33; try clear p35; try clear q35; try clear hx35; try clear c36; try clear c37; try clear hcz13_0; try clear hcz13_1; try clear hcz13_2; try clear hcz16_0; try clear hcz16_1; try clear hcz16_2; try clear hcz18_0; try clear hcz18_1; try clear hcz18_2; try clear hcz20_0; try clear hcz20_1; try clear hcz20_2; try clear hfz13_0; try clear hfz13_1; try clear hfz13_2; try clear hfz16_0; try clear hfz16_1; try clear hfz16_2; try clear hfz18_0; try clear hfz18_1; try clear hfz18_2; try clear hfz20_0; try clear hfz20_1; try clear hfz20_2; try clear hx32_0; try clear hx32_1; try clear hx32_2; try clear hx33_0; try clear hx33_1; try clear hx33_2; try clear hx351_0; try clear hx351_1; try clear hx351_2; try clear hx352_0; try clear hx352_1; try clear hx352_2; try clear p2; try clear p32; try clear p33; try clear p351; try clear p352; try clear q32; try clear q33; try clear q351; try clear q352
          obtain ⟨x12_3, x13_3, x14_3, rfl, HA, HK3, HO_9, HO_12, HO_13, BK344, HB⟩ := hrel
          cases gk with
          | zero => exact absurd HA.out (by simp [leatlaw11_WindowOrder.l1])
          | succ k3 =>
           have H := HA.out
           clear HA
           simp only [leatlaw11_WindowOrder.l1] at H
           by_cases c39 : x14_3 < (l2.length : Int)
           ·rw [if_pos c39] at H
            have c39b0 : decide (x14_3 < (l2.length : Int)) = true := decide_eq_true c39
            clear c39
            by_cases c40 : 0 ≤ x14_3
            ·rw [if_pos c40] at H
             have c40b0 : decide (0 ≤ x14_3) = true := decide_eq_true c40
             clear c40
             replace H := Option.bind_eq_some_iff.mp H
             obtain ⟨t356, A410, H⟩ := H
             replace H : (if t356 = true then ((window_Put.f k3 a0_0 a0_1 a0_2 a1 x12_3 ((rd_T37 l2 x14_3).f0) ((rd_T37 l2 x14_3).f1) ((rd_T37 l2 x14_3).f2)).bind fun t358 => (if x14_3 < (x9_2.length : Int) then ((window_Put.f k3 a0_0 a0_1 a0_2 a1 x13_3 ((rd_T37 x9_2 x14_3).f0) ((rd_T37 x9_2 x14_3).f1) ((rd_T37 x9_2 x14_3).f2)).bind fun t362 => (leatlaw11_WindowOrder.l1 k3 a1 l2 x9_2 t358 t362 (wrap64 (x14_3 + 1)) a0_0 a0_1 a0_2)) else (none))) else (some true)) = some r := H
             have A41 := Aside0.mk A410
             clear A410
             by_cases c42 : t356 = true
             ·subst c42
              have H1 : ((window_Put.f k3 a0_0 a0_1 a0_2 a1 x12_3 ((rd_T37 l2 x14_3).f0) ((rd_T37 l2 x14_3).f1) ((rd_T37 l2 x14_3).f2)).bind fun t358 => (if x14_3 < (x9_2.length : Int) then ((window_Put.f k3 a0_0 a0_1 a0_2 a1 x13_3 ((rd_T37 x9_2 x14_3).f0) ((rd_T37 x9_2 x14_3).f1) ((rd_T37 x9_2 x14_3).f2)).bind fun t362 => (leatlaw11_WindowOrder.l1 k3 a1 l2 x9_2 t358 t362 (wrap64 (x14_3 + 1)) a0_0 a0_1 a0_2)) else (none))) = some r := by rw [if_pos rfl] at H; exact H
              clear H
              have H := H1
              clear H1
              replace H := Option.bind_eq_some_iff.mp H
              obtain ⟨t358, A430, H⟩ := H
              replace H : (if x14_3 < (x9_2.length : Int) then ((window_Put.f k3 a0_0 a0_1 a0_2 a1 x13_3 ((rd_T37 x9_2 x14_3).f0) ((rd_T37 x9_2 x14_3).f1) ((rd_T37 x9_2 x14_3).f2)).bind fun t362 => (leatlaw11_WindowOrder.l1 k3 a1 l2 x9_2 t358 t362 (wrap64 (x14_3 + 1)) a0_0 a0_1 a0_2)) else (none)) = some r := H
              have A43 := Aside0.mk A430
              clear A430
              by_cases c44 : x14_3 < (x9_2.length : Int)
              ·rw [if_pos c44] at H
               have c44b0 : decide (x14_3 < (x9_2.length : Int)) = true := decide_eq_true c44
               clear c44
               replace H := Option.bind_eq_some_iff.mp H
               obtain ⟨t362, A450, H⟩ := H
               replace H : (leatlaw11_WindowOrder.l1 k3 a1 l2 x9_2 t358 t362 (wrap64 (x14_3 + 1)) a0_0 a0_1 a0_2) = some r := H
               have A45 := Aside0.mk A450
               clear A450
               have H' := Aside0.mk H
               clear H
               have p355 : 0 ≤ (x14_3 : Int) := of_decide_eq_true (by first | (with_reducible assumption) | assumption)
               have q355 : x14_3 < (l2.length : Int) := of_decide_eq_true (by first | (with_reducible assumption) | assumption)
               obtain ⟨ad355, e355, hx355_0, hx355_1, hx355_2⟩ := at_T37 HR2.out x14_3 p355 q355
               cases e355
               replace hx355_0 := (HB.out.cell (World.block_lt_of_cell? w _ hx355_0)).trans hx355_0
               replace hx355_1 := (HB.out.cell (World.block_lt_of_cell? w _ hx355_1)).trans hx355_1
               replace hx355_2 := (HB.out.cell (World.block_lt_of_cell? w _ hx355_2)).trans hx355_2
               replace p355 := eq_true p355
               replace q355 := eq_true q355
               try go_wp2_with (first | ((with_reducible refine gate_callee (f := 14) rfl ?_); refine goesL_ (some 78) rfl rfl Try.func14 (by kernel_rfl) rfl #[.int .i64 ((rd_T37 l2 x14_3).f1)] rfl (by (try simp only [List.map_toArray, List.map_cons, List.map_nil]); first | done | rfl | (simp only [List.length_drop, List.length_take]; rfl)) ?_; (with_reducible refine (leatlaw11_time.calls ((rd_T37 l2 x14_3).f1) true _ A41.out).mono ?_); rintro e w' ⟨rfl, ⟨nd, rfl⟩⟩; refine ⟨_, rfl, ?_⟩))
               (try (rw [drewN_self wr]; generalize hq_ : World.drewN wr _ = wr; have n0_ : Aside0 (Kd.R k46 46 wr w.heap.size (fun k_ => some k_ ≠ (u13 : Value).ownBlock) u12 x12_3) := ⟨by rw [← hq_]; exact (by (with_reducible repeat (first | apply Kd.R_alloc | apply Kd.R_drewN | apply Kd.R_drew)); exact HO_12.out)⟩; have n1_ : Aside0 (Kd.R k46 46 wr w.heap.size (fun k_ => some k_ ≠ (u12 : Value).ownBlock) u13 x13_3) := ⟨by rw [← hq_]; exact (by (with_reducible repeat (first | apply Kd.R_alloc | apply Kd.R_drewN | apply Kd.R_drew)); exact HO_13.out)⟩; have n2_ : Aside0 (Kd.R k37 37 wr w.heap.size (fun _ => True) (.slice Ao38 x9_2.length co38) x9_2) := ⟨by rw [← hq_]; exact (by (with_reducible repeat (first | apply Kd.R_alloc | apply Kd.R_drewN | apply Kd.R_drew)); exact HO_9.out)⟩; have n3_ : Aside0 (wr.heap[gb344]? = some (.cells #[.int .i64 a0_0, .int .i64 a0_1, .int .i64 a0_2] 23 (0, 0))) := ⟨by rw [← hq_]; exact (by (with_reducible repeat (first | refine blk_drewN ?_ _ | refine blk_drew ?_ | refine blk_alloc ?_ _)); exact BK344.out)⟩; have n4_ : Aside0 (Below w.heap.size w wr) := ⟨by rw [← hq_]; exact (by repeat (first | (with_reducible first | exact HB.out | apply below_alloc | apply pw_below_drewN | apply below_drew1 | refine below_set ?_ GE344.out) | exact HB.out))⟩; clear HO_12 HO_13 HO_9 BK344 HB hq_; have HO_12 := n0_; have HO_13 := n1_; have HO_9 := n2_; have BK344 := n3_; have HB := n4_; clear n0_ n1_ n2_ n3_ n4_))
               have n0_ := Aside0.mk (Kd.R_drew HO_9.out)
               have n1_ := Aside0.mk (Kd.R_drew HO_12.out)
               have n2_ := Aside0.mk (Kd.R_drew HO_13.out)
               have n3_ := Aside0.mk (blk_drew BK344.out)
               have n4_ := Aside0.mk (below_drew1 HB.out)
               clear HO_9
               clear HO_12
               clear HO_13
               clear BK344
               clear HB
               have HO_9 := n0_
               have HO_12 := n1_
               have HO_13 := n2_
               have BK344 := n3_
               have HB := n4_
               clear n0_ n1_ n2_ n3_ n4_
               have p357 : 0 ≤ (x14_3 : Int) := of_decide_eq_true (by first | (with_reducible assumption) | assumption)
               have q357 : x14_3 < (l2.length : Int) := of_decide_eq_true (by first | (with_reducible assumption) | assumption)
               obtain ⟨ad357, e357, hx357_0, hx357_1, hx357_2⟩ := at_T37 HR2.out x14_3 p357 q357
               have hw357_2 := hx357_2
               have hw357_1 := hx357_1
               have hw357_0 := hx357_0
               obtain rfl : ad355 = ad357 := (by injection e357)
               replace hx357_0 := (HB.out.cell (World.block_lt_of_cell? w _ hx357_0)).trans hx357_0
               replace hx357_1 := (HB.out.cell (World.block_lt_of_cell? w _ hx357_1)).trans hx357_1
               replace hx357_2 := (HB.out.cell (World.block_lt_of_cell? w _ hx357_2)).trans hx357_2
               replace p357 := eq_true p357
               replace q357 := eq_true q357
               have p361 : 0 ≤ (x14_3 : Int) := of_decide_eq_true (by first | (with_reducible assumption) | assumption)
               have q361 : x14_3 < (x9_2.length : Int) := of_decide_eq_true (by first | (with_reducible assumption) | assumption)
               obtain ⟨ad361, e361, hx361_0, hx361_1, hx361_2⟩ := at_T37 (Kd.R_reads' HO_9.out).2.2 x14_3 p361 q361
               cases e361
               replace p361 := eq_true p361
               replace q361 := eq_true q361
               obtain ⟨Ao47, co47, eo47⟩ := Kd.R_slice HO_12.out
               (first | subst eo47 | (injection eo47 with f1_ f2_ f3_; have f4_ := f1_.symm; have f5_ := f3_.symm; clear f1_ f2_ f3_; subst f4_; subst f5_))
               refine start_ (n := 18) (S := fun w' => w'.cell? ⟨gb344, 0, none⟩ = some (.int .i64 a0_0) ∧ w'.cell? ⟨gb344, 1, none⟩ = some (.int .i64 a0_1) ∧ w'.cell? ⟨gb344, 2, none⟩ = some (.int .i64 a0_2) ∧ w'.cell? (ad355.add ((x14_3).toNat * 3)) = some (.int .i64 ((rd_T37 l2 x14_3).f0)) ∧ w'.cell? ⟨(ad355.add ((x14_3).toNat * 3)).block, (ad355.add ((x14_3).toNat * 3)).off + 1, none⟩ = some (.int .i64 ((rd_T37 l2 x14_3).f1)) ∧ w'.cell? ⟨(ad355.add ((x14_3).toNat * 3)).block, (ad355.add ((x14_3).toNat * 3)).off + 2, none⟩ = some (.int .i64 ((rd_T37 l2 x14_3).f2)) ∧ w'.cell? (ad361.add ((x14_3).toNat * 3)) = some (.int .i64 ((rd_T37 x9_2 x14_3).f0)) ∧ w'.cell? ⟨(ad361.add ((x14_3).toNat * 3)).block, (ad361.add ((x14_3).toNat * 3)).off + 1, none⟩ = some (.int .i64 ((rd_T37 x9_2 x14_3).f1)) ∧ w'.cell? ⟨(ad361.add ((x14_3).toNat * 3)).block, (ad361.add ((x14_3).toNat * 3)).off + 2, none⟩ = some (.int .i64 ((rd_T37 x9_2 x14_3).f2))) (ds := []) #[false, false, false, false, false, false, false, false, false, false, false, false, false, false, false, false, false, false] (by kernel_rfl) rfl rfl ⟨(blk_cell BK344.out 0).trans rfl, (blk_cell BK344.out 1).trans rfl, (blk_cell BK344.out 2).trans rfl, ((HB.out.cell (World.block_lt_of_cell? w _ hw357_0)).trans hw357_0), ((HB.out.cell (World.block_lt_of_cell? w _ hw357_1)).trans hw357_1), ((HB.out.cell (World.block_lt_of_cell? w _ hw357_2)).trans hw357_2), hx361_0, hx361_1, hx361_2⟩ (fun hHeld => ?_); refine with_tabW leatlaw11_WindowOrder.tab17 leatlaw11_WindowOrder.bits17 (fun HT_ HW_ => ?_)
               generalize wr.drew = w46 at HO_9 HO_12 HO_13 BK344 HB hx357_0 hx357_1 hx357_2 hx361_0 hx361_1 hx361_2 hHeld ⊢
               refine pure_ (i := 1) (N := some 81) (v := ?_) (a' := ?_) #[false, true, false, false, false, false, false, false, false, false, false, false, false, false, false, false, false, false] rfl rfl (any_of HT_.out (by kernel_rfl)) (fun _ _ _ h => h) (Or.inl ⟨by rfl, ?_⟩) ?_ ?_
               rotate_left
               ·intro w'
                go_simp
                with_reducible rfl
               rotate_left
               ·simp only [Act.put, List.setIfInBounds_toArray, List.set_cons_zero, List.set_cons_succ, i64_w, i32_w]
                rfl
               refine pure_ (i := 2) (N := some 82) (v := ?_) (a' := ?_) #[false, true, true, false, false, false, false, false, false, false, false, false, false, false, false, false, false, false] rfl rfl (any_of HT_.out (by kernel_rfl)) (fun _ _ _ h => h) (Or.inl ⟨by rfl, ?_⟩) ?_ ?_
               rotate_left
               ·intro w'
                go_simp
                with_reducible rfl
               rotate_left
               ·simp only [Act.put, List.setIfInBounds_toArray, List.set_cons_zero, List.set_cons_succ, i64_w, i32_w]
                rfl
               refine pure_ (i := 3) (N := some 83) (v := ?_) (a' := ?_) #[false, true, true, true, false, false, false, false, false, false, false, false, false, false, false, false, false, false] rfl rfl (any_of HT_.out (by kernel_rfl)) (fun _ _ _ h => h) (Or.inl ⟨by rfl, ?_⟩) ?_ ?_
               rotate_left
               ·intro w'
                go_simp
                with_reducible rfl
               rotate_left
               ·simp only [Act.put, List.setIfInBounds_toArray, List.set_cons_zero, List.set_cons_succ, i64_w, i32_w]
                rfl
               refine pure_ (i := 4) (N := some 84) (v := ?_) (a' := ?_) #[false, true, true, true, true, false, false, false, false, false, false, false, false, false, false, false, false, false] rfl rfl (any_of HT_.out (by kernel_rfl)) (fun _ _ _ h => h) (Or.inl ⟨by rfl, ?_⟩) ?_ ?_
               rotate_left
               ·intro w'
                go_simp
                with_reducible rfl
               rotate_left
               ·simp only [Act.put, List.setIfInBounds_toArray, List.set_cons_zero, List.set_cons_succ, i64_w, i32_w]
                rfl
               refine pure_ (i := 5) (N := some 85) (v := ?_) (a' := ?_) #[false, true, true, true, true, true, false, false, false, false, false, false, false, false, false, false, false, false] rfl rfl (any_of HT_.out (by kernel_rfl)) (fun _ _ _ h => h) (Or.inl ⟨by rfl, ?_⟩) ?_ ?_
               rotate_left
               ·intro w'
                go_simp
                with_reducible rfl
               rotate_left
               ·simp only [Act.put, List.setIfInBounds_toArray, List.set_cons_zero, List.set_cons_succ, i64_w, i32_w]
                rfl
               refine pure_ (i := 9) (N := some 89) (v := ?_) (a' := ?_) #[false, true, true, true, true, true, false, false, false, true, false, false, false, false, false, false, false, false] rfl rfl (any_of HT_.out (by kernel_rfl)) (fun _ _ _ h => h) (Or.inl ⟨by rfl, ?_⟩) ?_ ?_
               rotate_left
               ·intro w'
                go_simp
                with_reducible rfl
               rotate_left
               ·simp only [Act.put, List.setIfInBounds_toArray, List.set_cons_zero, List.set_cons_succ, i64_w, i32_w]
                rfl
               refine pure_ (i := 10) (N := some 90) (v := ?_) (a' := ?_) #[false, true, true, true, true, true, false, false, false, true, true, false, false, false, false, false, false, false] rfl rfl (any_of HT_.out (by kernel_rfl)) (fun _ _ _ h => h) (Or.inl ⟨by rfl, ?_⟩) ?_ ?_
               rotate_left
               ·intro w'
                go_simp
                with_reducible rfl
               rotate_left
               ·simp only [Act.put, List.setIfInBounds_toArray, List.set_cons_zero, List.set_cons_succ, i64_w, i32_w]
                rfl
               refine pure_ (i := 11) (N := some 91) (v := ?_) (a' := ?_) #[false, true, true, true, true, true, false, false, false, true, true, true, false, false, false, false, false, false] rfl rfl (any_of HT_.out (by kernel_rfl)) (fun _ _ _ h => h) (Or.inl ⟨by rfl, ?_⟩) ?_ ?_
               rotate_left
               ·intro w'
                go_simp
                with_reducible rfl
               rotate_left
               ·simp only [Act.put, List.setIfInBounds_toArray, List.set_cons_zero, List.set_cons_succ, i64_w, i32_w]
                rfl
               refine pure_ (i := 12) (N := some 92) (v := ?_) (a' := ?_) #[false, true, true, true, true, true, false, false, false, true, true, true, true, false, false, false, false, false] rfl rfl (any_of HT_.out (by kernel_rfl)) (fun _ _ _ h => h) (Or.inl ⟨by rfl, ?_⟩) ?_ ?_
               rotate_left
               ·intro w'
                go_simp
                with_reducible rfl
               rotate_left
               ·simp only [Act.put, List.setIfInBounds_toArray, List.set_cons_zero, List.set_cons_succ, i64_w, i32_w]
                rfl
               refine pure_ (i := 13) (N := some 93) (v := ?_) (a' := ?_) #[false, true, true, true, true, true, false, false, false, true, true, true, true, true, false, false, false, false] rfl rfl (any_of HT_.out (by kernel_rfl)) (fun _ _ _ h => h) (Or.inl ⟨by rfl, ?_⟩) ?_ ?_
               rotate_left
               ·intro w'
                go_simp
                with_reducible rfl
               rotate_left
               ·simp only [Act.put, List.setIfInBounds_toArray, List.set_cons_zero, List.set_cons_succ, i64_w, i32_w]
                rfl
               refine take_ (i := 0) (N := some 80) (v := ?_) (a' := ?_) #[true, true, true, true, true, true, false, false, false, true, true, true, true, true, false, false, false, false] rfl rfl (take_ofW HT_.out HW_.out (by kernel_rfl)) (fun _ _ _ h => h) (Or.inl ⟨by rfl, ?_⟩) hHeld ?_ ?_
               rotate_left
               ·rintro w' ⟨s0, s1, s2, s3, s4, s5, s6, s7, s8⟩
                go_simp
                with_reducible rfl
               rotate_left
               ·simp only [Act.put, List.setIfInBounds_toArray, List.set_cons_zero, List.set_cons_succ, i64_w, i32_w]
                rfl
               refine take_ (i := 6) (N := some 86) (v := ?_) (a' := ?_) #[true, true, true, true, true, true, true, false, false, true, true, true, true, true, false, false, false, false] rfl rfl (take_ofW HT_.out HW_.out (by kernel_rfl)) (fun _ _ _ h => h) (Or.inl ⟨by rfl, ?_⟩) hHeld ?_ ?_
               rotate_left
               ·rintro w' ⟨s0, s1, s2, s3, s4, s5, s6, s7, s8⟩
                go_simp
                with_reducible rfl
               rotate_left
               ·simp only [Act.put, List.setIfInBounds_toArray, List.set_cons_zero, List.set_cons_succ, i64_w, i32_w]
                rfl
               refine take_ (i := 8) (N := some 88) (v := ?_) (a' := ?_) #[true, true, true, true, true, true, true, false, true, true, true, true, true, true, false, false, false, false] rfl rfl (take_ofW HT_.out HW_.out (by kernel_rfl)) (fun _ _ _ h => h) (Or.inl ⟨by rfl, ?_⟩) hHeld ?_ ?_
               rotate_left
               ·rintro w' ⟨s0, s1, s2, s3, s4, s5, s6, s7, s8⟩
                go_simp
                with_reducible rfl
               rotate_left
               ·simp only [Act.put, List.setIfInBounds_toArray, List.set_cons_zero, List.set_cons_succ, i64_w, i32_w]
                rfl
               refine take_ (i := 14) (N := some 94) (v := ?_) (a' := ?_) #[true, true, true, true, true, true, true, false, true, true, true, true, true, true, true, false, false, false] rfl rfl (take_ofW HT_.out HW_.out (by kernel_rfl)) (fun _ _ _ h => h) (Or.inl ⟨by rfl, ?_⟩) hHeld ?_ ?_
               rotate_left
               ·rintro w' ⟨s0, s1, s2, s3, s4, s5, s6, s7, s8⟩
                go_simp
                with_reducible rfl
               rotate_left
               ·simp only [Act.put, List.setIfInBounds_toArray, List.set_cons_zero, List.set_cons_succ, i64_w, i32_w]
                rfl
               refine one_ (i := 7) (N := some 87) #[true, true, true, true, true, true, true, true, true, true, true, true, true, true, true, false, false, false] rfl rfl (one_of HT_.out (by kernel_rfl)) (by decide) (fun K hK => ?_)
               refine goes_ Try.func18 (by kernel_rfl) rfl #[.agg #[.int .i64 a0_0, .int .i64 a0_1, .int .i64 a0_2], .int .i64 a1, .slice Ao47 x12_3.length co47, .agg #[.int .i64 ((rd_T37 l2 x14_3).f0), .int .i64 ((rd_T37 l2 x14_3).f1), .int .i64 ((rd_T37 l2 x14_3).f2)]] (by rfl) rfl rfl (by (try simp only [List.map_toArray, List.map_cons, List.map_nil]); first | done | rfl | (simp only [List.length_drop, List.length_take]; rfl)) ?_
               with_reducible refine (window_Put.calls k3 a0_0 a0_1 a0_2 a1 _ _ x12_3 ((rd_T37 l2 x14_3).f0) ((rd_T37 l2 x14_3).f1) ((rd_T37 l2 x14_3).f2) t358 _ ?side1 ?side2 A43.out).mono ?_
               (case side1 => repeat (first | exact (Kd.R_reads' HO_12.out).2.2 | (with_reducible refine Kd.C_alloc ?_ _) | (with_reducible refine Kd.C_drewN ?_ _) | (with_reducible refine Kd.C_drew ?_)))
               (case side2 => exact (Kd.R_reads' HO_12.out).2.1)
               rintro e w48 ⟨v359, rfl, ho0, hb⟩
               have HS6_ := (hb.cell (World.block_lt_of_cell? _ _ (hHeld.2.2.2.2.2.2.1))).trans (hHeld.2.2.2.2.2.2.1)
               have HS7_ := (hb.cell (World.block_lt_of_cell? _ _ (hHeld.2.2.2.2.2.2.2.1))).trans (hHeld.2.2.2.2.2.2.2.1)
               have HS8_ := (hb.cell (World.block_lt_of_cell? _ _ (hHeld.2.2.2.2.2.2.2.2))).trans (hHeld.2.2.2.2.2.2.2.2)
               refine ⟨_, rfl, ?_⟩
               have n0_ := Aside0.mk (Kd.R_below (by (with_reducible repeat (first | apply Kd.R_alloc | apply Kd.R_drewN | apply Kd.R_drew)); exact HO_9.out) hb)
               have n1_ := Aside0.mk (Kd.R_elder' (by (with_reducible repeat (first | apply Kd.R_alloc | apply Kd.R_drewN | apply Kd.R_drew)); exact HO_12.out) (Kd.R_base ho0) hb)
               have n2_ := Aside0.mk (Kd.R_elder' (by (with_reducible repeat (first | apply Kd.R_alloc | apply Kd.R_drewN | apply Kd.R_drew)); exact HO_13.out) (Kd.R_base ho0) hb)
               have n3_ := Aside0.mk (Kd.R_lower (Kd.R_new' (Kd.R_new' ho0 (Kd.R_lt (by (with_reducible repeat (first | apply Kd.R_alloc | apply Kd.R_drewN | apply Kd.R_drew)); exact HO_12.out))) (Kd.R_lt (by (with_reducible repeat (first | apply Kd.R_alloc | apply Kd.R_drewN | apply Kd.R_drew)); exact HO_13.out))) (below_size (by repeat (first | (with_reducible first | exact HB.out | apply below_alloc | apply pw_below_drewN | apply below_drew1 | refine below_set ?_ GE344.out) | exact HB.out))))
               have n4_ := Aside0.mk (blk_below (g := gb344) (o := .cells #[.int .i64 a0_0, .int .i64 a0_1, .int .i64 a0_2] 23 (0, 0)) (by (with_reducible repeat (first | refine blk_drewN ?_ _ | refine blk_drew ?_ | refine blk_alloc ?_ _)); exact BK344.out) hb)
               have n5_ := Aside0.mk (below_step (by repeat (first | (with_reducible first | exact HB.out | apply below_alloc | apply pw_below_drewN | apply below_drew1 | refine below_set ?_ GE344.out) | exact HB.out)) hb)
               clear HO_9
               clear HO_12
               clear HO_13
               clear BK344
               clear HB
               have HO_9 := n0_
               have HO_12 := n1_
               have HO_13 := n2_
               have HO360 := n3_
               have BK344 := n4_
               have HB := n5_
               clear n0_ n1_ n2_ n3_ n4_ n5_
               (try clear hb)
               (try clear hb2)
               (try clear hk)
               (try clear hi)
               (try clear ho0)
               obtain ⟨Ao49, co49, eo49⟩ := Kd.R_slice HO_13.out
               (first | subst eo49 | (injection eo49 with f1_ f2_ f3_; have f4_ := f1_.symm; have f5_ := f3_.symm; clear f1_ f2_ f3_; subst f4_; subst f5_))
               refine hK.out _ _ ⟨(blk_cell BK344.out 0).trans rfl, (blk_cell BK344.out 1).trans rfl, (blk_cell BK344.out 2).trans rfl, ((HB.out.cell (World.block_lt_of_cell? w _ hw357_0)).trans hw357_0), ((HB.out.cell (World.block_lt_of_cell? w _ hw357_1)).trans hw357_1), ((HB.out.cell (World.block_lt_of_cell? w _ hw357_2)).trans hw357_2), HS6_, HS7_, HS8_⟩ (fun hHeld => ?_)
               clear hK K
               refine norm_ (a' := ?_) ?_ ?_
               rotate_left
               ·show Act.put _ (some 87) _ = _
                simp only [Act.put, List.setIfInBounds_toArray, List.set_cons_zero, List.set_cons_succ, i64_w, i32_w]
                rfl
               refine one_ (i := 15) (N := some 95) #[true, true, true, true, true, true, true, true, true, true, true, true, true, true, true, true, false, false] rfl rfl (one_of HT_.out (by kernel_rfl)) (by decide) (fun K hK => ?_)
               refine goes_ Try.func18 (by kernel_rfl) rfl #[.agg #[.int .i64 a0_0, .int .i64 a0_1, .int .i64 a0_2], .int .i64 a1, .slice Ao49 x13_3.length co49, .agg #[.int .i64 ((rd_T37 x9_2 x14_3).f0), .int .i64 ((rd_T37 x9_2 x14_3).f1), .int .i64 ((rd_T37 x9_2 x14_3).f2)]] (by rfl) rfl rfl (by (try simp only [List.map_toArray, List.map_cons, List.map_nil]); first | done | rfl | (simp only [List.length_drop, List.length_take]; rfl)) ?_
               with_reducible refine (window_Put.calls k3 a0_0 a0_1 a0_2 a1 _ _ x13_3 ((rd_T37 x9_2 x14_3).f0) ((rd_T37 x9_2 x14_3).f1) ((rd_T37 x9_2 x14_3).f2) t362 _ ?side1 ?side2 A45.out).mono ?_
               (case side1 => repeat (first | exact (Kd.R_reads' HO_13.out).2.2 | (with_reducible refine Kd.C_alloc ?_ _) | (with_reducible refine Kd.C_drewN ?_ _) | (with_reducible refine Kd.C_drew ?_)))
               (case side2 => exact (Kd.R_reads' HO_13.out).2.1)
               rintro e w50 ⟨v363, rfl, ho0, hb⟩
               have HS6_ := (hb.cell (World.block_lt_of_cell? _ _ (hHeld.2.2.2.2.2.2.1))).trans (hHeld.2.2.2.2.2.2.1)
               have HS7_ := (hb.cell (World.block_lt_of_cell? _ _ (hHeld.2.2.2.2.2.2.2.1))).trans (hHeld.2.2.2.2.2.2.2.1)
               have HS8_ := (hb.cell (World.block_lt_of_cell? _ _ (hHeld.2.2.2.2.2.2.2.2))).trans (hHeld.2.2.2.2.2.2.2.2)
               refine ⟨_, rfl, ?_⟩
               have n0_ := Aside0.mk (Kd.R_below (by (with_reducible repeat (first | apply Kd.R_alloc | apply Kd.R_drewN | apply Kd.R_drew)); exact HO_9.out) hb)
               have n1_ := Aside0.mk (Kd.R_elder' (by (with_reducible repeat (first | apply Kd.R_alloc | apply Kd.R_drewN | apply Kd.R_drew)); exact HO_12.out) (Kd.R_base ho0) hb)
               have n2_ := Aside0.mk (Kd.R_elder' (by (with_reducible repeat (first | apply Kd.R_alloc | apply Kd.R_drewN | apply Kd.R_drew)); exact HO_13.out) (Kd.R_base ho0) hb)
               have n3_ := Aside0.mk (Kd.R_elder' (by (with_reducible repeat (first | apply Kd.R_alloc | apply Kd.R_drewN | apply Kd.R_drew)); exact HO360.out) (Kd.R_base ho0) hb)
               have n4_ := Aside0.mk (Kd.R_lower (Kd.R_new' (Kd.R_new' (Kd.R_new' ho0 (Kd.R_lt (by (with_reducible repeat (first | apply Kd.R_alloc | apply Kd.R_drewN | apply Kd.R_drew)); exact HO_12.out))) (Kd.R_lt (by (with_reducible repeat (first | apply Kd.R_alloc | apply Kd.R_drewN | apply Kd.R_drew)); exact HO_13.out))) (Kd.R_lt (by (with_reducible repeat (first | apply Kd.R_alloc | apply Kd.R_drewN | apply Kd.R_drew)); exact HO360.out))) (below_size (by repeat (first | (with_reducible first | exact HB.out | apply below_alloc | apply pw_below_drewN | apply below_drew1 | refine below_set ?_ GE344.out) | exact HB.out))))
               have n5_ := Aside0.mk (blk_below (g := gb344) (o := .cells #[.int .i64 a0_0, .int .i64 a0_1, .int .i64 a0_2] 23 (0, 0)) (by (with_reducible repeat (first | refine blk_drewN ?_ _ | refine blk_drew ?_ | refine blk_alloc ?_ _)); exact BK344.out) hb)
               have n6_ := Aside0.mk (below_step (by repeat (first | (with_reducible first | exact HB.out | apply below_alloc | apply pw_below_drewN | apply below_drew1 | refine below_set ?_ GE344.out) | exact HB.out)) hb)
               clear HO_9
               clear HO_12
               clear HO_13
               clear HO360
               clear BK344
               clear HB
               have HO_9 := n0_
               have HO_12 := n1_
               have HO_13 := n2_
               have HO360 := n3_
               have HO364 := n4_
               have BK344 := n5_
               have HB := n6_
               clear n0_ n1_ n2_ n3_ n4_ n5_ n6_
               (try clear hb)
               (try clear hb2)
               (try clear hk)
               (try clear hi)
               (try clear ho0)
               refine hK.out _ _ ⟨(blk_cell BK344.out 0).trans rfl, (blk_cell BK344.out 1).trans rfl, (blk_cell BK344.out 2).trans rfl, ((HB.out.cell (World.block_lt_of_cell? w _ hw357_0)).trans hw357_0), ((HB.out.cell (World.block_lt_of_cell? w _ hw357_1)).trans hw357_1), ((HB.out.cell (World.block_lt_of_cell? w _ hw357_2)).trans hw357_2), HS6_, HS7_, HS8_⟩ (fun hHeld => ?_)
               clear hK K
               refine norm_ (a' := ?_) ?_ ?_
               rotate_left
               ·show Act.put _ (some 95) _ = _
                simp only [Act.put, List.setIfInBounds_toArray, List.set_cons_zero, List.set_cons_succ, i64_w, i32_w]
                rfl
               refine pure_ (i := 16) (N := some 12) (v := ?_) (a' := ?_) #[true, true, true, true, true, true, true, true, true, true, true, true, true, true, true, true, true, false] rfl rfl (any_of HT_.out (by kernel_rfl)) (fun _ _ _ h => h) (Or.inl ⟨by rfl, ?_⟩) ?_ ?_
               rotate_left
               ·intro w'
                go_simp
                with_reducible rfl
               rotate_left
               ·simp only [Act.put, List.setIfInBounds_toArray, List.set_cons_zero, List.set_cons_succ, i64_w, i32_w]
                rfl
               refine pure_ (i := 17) (N := some 13) (v := ?_) (a' := ?_) #[true, true, true, true, true, true, true, true, true, true, true, true, true, true, true, true, true, true] rfl rfl (any_of HT_.out (by kernel_rfl)) (fun _ _ _ h => h) (Or.inl ⟨by rfl, ?_⟩) ?_ ?_
               rotate_left
               ·intro w'
                go_simp
                with_reducible rfl
               rotate_left
               ·simp only [Act.put, List.setIfInBounds_toArray, List.set_cons_zero, List.set_cons_succ, i64_w, i32_w]
                rfl
               refine done_ (done_of HT_.out (by kernel_rfl)) ?_
               try go_wp2
               go_roundg k3
               case measure => have := HJ6.out; have := HK2.out; have := HK3.out; omega
               case rel => exact ⟨(t358), (t362), (wrap64 (x14_3 + 1)), (by first | rfl | (simp; done) | (simp [*]; done)), H', ⟨by have := HJ6.out; have := HK2.out; have := HK3.out; omega⟩, ⟨by (with_reducible repeat (first | apply Kd.R_alloc | apply Kd.R_drewN | apply Kd.R_drew)); exact HO_9.out⟩, ⟨by (with_reducible repeat (first | apply Kd.R_alloc | apply Kd.R_drewN | apply Kd.R_drew)); exact Kd.R_mono HO360.out (fun _ hk => hk.2)⟩, ⟨by (with_reducible repeat (first | apply Kd.R_alloc | apply Kd.R_drewN | apply Kd.R_drew)); exact Kd.R_mono HO364.out (fun _ hk => hk.2)⟩, ⟨by (with_reducible repeat (first | refine blk_drewN ?_ _ | refine blk_drew ?_ | refine blk_alloc ?_ _)); exact BK344.out⟩, ⟨by repeat (first | (with_reducible first | exact HB.out | apply below_alloc | apply pw_below_drewN | apply below_drew1 | refine below_set ?_ GE344.out) | exact HB.out)⟩⟩
              ·rw [if_neg c44] at H
               exact absurd H (by simp)
             ·replace c42 := Bool.eq_false_iff.mpr c42
              subst c42
              have H1 : (some true) = some r := by rw [if_neg (show ¬ (false = true) by decide)] at H; exact H
              clear H
              have H := H1
              clear H1
              obtain rfl := Option.some.inj H
              have p355 : 0 ≤ (x14_3 : Int) := of_decide_eq_true (by first | (with_reducible assumption) | assumption)
              have q355 : x14_3 < (l2.length : Int) := of_decide_eq_true (by first | (with_reducible assumption) | assumption)
              obtain ⟨ad355, e355, hx355_0, hx355_1, hx355_2⟩ := at_T37 HR2.out x14_3 p355 q355
              cases e355
              replace hx355_0 := (HB.out.cell (World.block_lt_of_cell? w _ hx355_0)).trans hx355_0
              replace hx355_1 := (HB.out.cell (World.block_lt_of_cell? w _ hx355_1)).trans hx355_1
              replace hx355_2 := (HB.out.cell (World.block_lt_of_cell? w _ hx355_2)).trans hx355_2
              replace p355 := eq_true p355
              replace q355 := eq_true q355
              go_wp2_with (first | ((with_reducible refine gate_callee (f := 14) rfl ?_); refine goesL_ (some 78) rfl rfl Try.func14 (by kernel_rfl) rfl #[.int .i64 ((rd_T37 l2 x14_3).f1)] rfl (by (try simp only [List.map_toArray, List.map_cons, List.map_nil]); first | done | rfl | (simp only [List.length_drop, List.length_take]; rfl)) ?_; (with_reducible refine (leatlaw11_time.calls ((rd_T37 l2 x14_3).f1) false _ A41.out).mono ?_); rintro e w' ⟨rfl, ⟨nd, rfl⟩⟩; refine ⟨_, rfl, ?_⟩))
              go_ret
              exact ⟨by first | rfl | (simp [errW_none, errW_some] <;> rfl) | (simp [*, errW_none, errW_some] <;> rfl), by repeat (first | (with_reducible first | exact HB.out | apply below_alloc | apply pw_below_drewN | apply below_drew1 | refine below_set ?_ GE344.out) | exact HB.out)⟩
            ·rw [if_neg c40] at H
             exact absurd H (by simp)
           ·rw [if_neg c39] at H
            have c39b0 : decide (x14_3 < (l2.length : Int)) = false := decide_eq_false c39
            clear c39
            have H' := Aside0.mk H
            clear H
            go_wp2
            go_loopg [15] k3 (fun kq v15 w' => ∃ (x15_4 : Int), v15 = .int .i64 x15_4 ∧ Aside0 (leatlaw11_WindowOrder.l2 kq x12_3 x13_3 x15_4 a0_0 a0_1 a0_2 = some r) ∧ Aside0 (kq ≤ k3) ∧ Aside0 (Kd.R k46 46 w' w.heap.size (fun k_ => some k_ ≠ (u13 : Value).ownBlock) u12 x12_3) ∧ Aside0 (Kd.R k46 46 w' w.heap.size (fun k_ => some k_ ≠ (u12 : Value).ownBlock) u13 x13_3) ∧ Aside0 (w'.heap[gb344]? = some (.cells #[.int .i64 a0_0, .int .i64 a0_1, .int .i64 a0_2] 23 (0, 0))) ∧ Aside0 (Below w.heap.size w w'))
            case atStart => exact ⟨(1), (by first | rfl | (simp; done) | (simp [*]; done)), H', ⟨Nat.le_refl _⟩, ⟨by (with_reducible repeat (first | apply Kd.R_alloc | apply Kd.R_drewN | apply Kd.R_drew)); exact HO_12.out⟩, ⟨by (with_reducible repeat (first | apply Kd.R_alloc | apply Kd.R_drewN | apply Kd.R_drew)); exact HO_13.out⟩, ⟨by (with_reducible repeat (first | refine blk_drewN ?_ _ | refine blk_drew ?_ | refine blk_alloc ?_ _)); exact BK344.out⟩, ⟨by repeat (first | (with_reducible first | exact HB.out | apply below_alloc | apply pw_below_drewN | apply below_drew1 | refine below_set ?_ GE344.out) | exact HB.out)⟩⟩
            case round =>
             clear H'
             try clear c1; try clear c2; try clear p2; try clear c3; try clear p3; try clear q3; try clear hx3; try clear c4; try clear c5; try clear c6; try clear p6; try clear c11; try clear c12; try clear c12b0; try clear c12b1; try clear c13; try clear c14; try clear c15; try clear c15b0; try clear c18; try clear c22; try clear c23; try clear c24; try clear c25; try clear c25b0; try clear c27; try clear c27b0; try clear c27b1; try clear c27b2; try clear c29; try clear c29b0; try clear c30; try clear c30b0; try clear c31; try clear c31b0; try clear c32; try clear p32; try clear q32; try clear hx32; try clear hf32; try clear c33; try clear p33; try clear q33; try clear hx33; try clear hf33; try clear p35; try clear q35; try clear hx35; try clear c36; try clear p36; try clear q36; try clear hx36; try clear c37; try clear c39; try clear c39b0; try clear c40; try clear c40b0; try clear c42; try clear c44; try clear c44b0; try clear hcz13_0; try clear hcz13_1; try clear hcz13_2; try clear hcz16_0; try clear hcz16_1; try clear hcz16_2; try clear hcz18_0; try clear hcz18_1; try clear hcz18_2; try clear hcz20_0; try clear hcz20_1; try clear hcz20_2; try clear hfz13_0; try clear hfz13_1; try clear hfz13_2; try clear hfz16_0; try clear hfz16_1; try clear hfz16_2; try clear hfz18_0; try clear hfz18_1; try clear hfz18_2; try clear hfz20_0; try clear hfz20_1; try clear hfz20_2; try clear hx32_0; try clear hx32_1; try clear hx32_2; try clear hx33_0; try clear hx33_1; try clear hx33_2; try clear hx351_0; try clear hx351_1; try clear hx351_2; try clear hx352_0; try clear hx352_1; try clear hx352_2; try clear hx355_0; try clear hx355_1; try clear hx355_2; try clear hx357_0; try clear hx357_1; try clear hx357_2; try clear hx361_0; try clear hx361_1; try clear hx361_2; try clear p2; try clear p3; try clear p32; try clear p33; try clear p35; try clear p351; try clear p352; try clear p355; try clear p357; try clear p361; try clear p6; try clear q3; try clear q32; try clear q33; try clear q35; try clear q351; try clear q352; try clear q355; try clear q357; try clear q361
             obtain ⟨x15_4, rfl, HA, HK4, HO_12, HO_13, BK344, HB⟩ := hrel
             cases gk with
             | zero => exact absurd HA.out (by simp [leatlaw11_WindowOrder.l2])
             | succ k4 =>
              have H := HA.out
              clear HA
              simp only [leatlaw11_WindowOrder.l2] at H
              have HC51 := Aside0.mk H
              clear H
              go_upto_region 19 with (fail)
              go_cut [104] (fun v104 wc => ∃ (kq : Nat) (x104_50 : Bool), v104 = .bool x104_50 ∧ Aside0 (leatlaw11_WindowOrder.j4 kq x12_3 x13_3 x15_4 x104_50 a0_0 a0_1 a0_2 = some r) ∧ Aside0 (kq ≤ k4) ∧ Aside0 (Kd.R k46 46 wc w.heap.size (fun k_ => some k_ ≠ (u13 : Value).ownBlock) u12 x12_3) ∧ Aside0 (Kd.R k46 46 wc w.heap.size (fun k_ => some k_ ≠ (u12 : Value).ownBlock) u13 x13_3) ∧ Aside0 (wc.heap[gb344]? = some (.cells #[.int .i64 a0_0, .int .i64 a0_1, .int .i64 a0_2] 23 (0, 0))) ∧ Aside0 (Below w.heap.size w wc))
              case first =>
               have H := HC51.out
               clear HC51
               by_cases c52 : x15_4 < (x12_3.length : Int)
               ·rw [if_pos c52] at H
                have c52b0 : decide (x15_4 < (x12_3.length : Int)) = true := decide_eq_true c52
                clear c52
                (first | rw [c52b0] | (simp only [i64_w, i32_w]; rw [c52b0]) | skip)
                have H' := Aside0.mk H
                clear H
                obtain ⟨Ao53, co53, eo53⟩ := Kd.R_slice HO_12.out
                subst eo53
                have hcz54_0 : wr.cell? ⟨gb344, 0, none⟩ = some (.int .i64 a0_0) := (blk_cell BK344.out 0).trans rfl
                have hcz54_1 : wr.cell? ⟨gb344, 1, none⟩ = some (.int .i64 a0_1) := (blk_cell BK344.out 1).trans rfl
                have hcz54_2 : wr.cell? ⟨gb344, 2, none⟩ = some (.int .i64 a0_2) := (blk_cell BK344.out 2).trans rfl
                have hfz54_0 := blk_frozen BK344.out 0
                have hfz54_1 := blk_frozen BK344.out 1
                have hfz54_2 := blk_frozen BK344.out 2
                go_wp2
                go_meet
                case rel => exact ⟨_, ((a0_0 == 3)), (by first | rfl | (simp; done) | (simp [*]; done)), H', ⟨by have := HJ6.out; have := HK2.out; have := HK3.out; have := HK4.out; first | omega | exact Nat.le_refl _⟩, ⟨by (with_reducible repeat (first | apply Kd.R_alloc | apply Kd.R_drewN | apply Kd.R_drew)); exact HO_12.out⟩, ⟨by (with_reducible repeat (first | apply Kd.R_alloc | apply Kd.R_drewN | apply Kd.R_drew)); exact HO_13.out⟩, ⟨by (with_reducible repeat (first | refine blk_drewN ?_ _ | refine blk_drew ?_ | refine blk_alloc ?_ _)); exact BK344.out⟩, ⟨by repeat (first | (with_reducible first | exact HB.out | apply below_alloc | apply pw_below_drewN | apply below_drew1 | refine below_set ?_ GE344.out) | exact HB.out)⟩⟩
               ·rw [if_neg c52] at H
                have c52b0 : decide (x15_4 < (x12_3.length : Int)) = false := decide_eq_false c52
                clear c52
                (first | rw [c52b0] | (simp only [i64_w, i32_w]; rw [c52b0]) | skip)
                have H' := Aside0.mk H
                clear H
                obtain ⟨Ao55, co55, eo55⟩ := Kd.R_slice HO_12.out
                subst eo55
                go_wp2
                go_meet
                case rel => exact ⟨_, (false), (by first | rfl | (simp; done) | (simp [*]; done)), H', ⟨by have := HJ6.out; have := HK2.out; have := HK3.out; have := HK4.out; first | omega | exact Nat.le_refl _⟩, ⟨by (with_reducible repeat (first | apply Kd.R_alloc | apply Kd.R_drewN | apply Kd.R_drew)); exact HO_12.out⟩, ⟨by (with_reducible repeat (first | apply Kd.R_alloc | apply Kd.R_drewN | apply Kd.R_drew)); exact HO_13.out⟩, ⟨by (with_reducible repeat (first | refine blk_drewN ?_ _ | refine blk_drew ?_ | refine blk_alloc ?_ _)); exact BK344.out⟩, ⟨by repeat (first | (with_reducible first | exact HB.out | apply below_alloc | apply pw_below_drewN | apply below_drew1 | refine below_set ?_ GE344.out) | exact HB.out)⟩⟩
              case rest =>
               clear HC51
               try clear c1; try clear c2; try clear p2; try clear c3; try clear p3; try clear q3; try clear hx3; try clear c4; try clear c5; try clear c6; try clear p6; try clear c11; try clear c12; try clear c12b0; try clear c12b1; try clear c13; try clear c14; try clear c15; try clear c15b0; try clear c18; try clear c22; try clear c23; try clear c24; try clear c25; try clear c25b0; try clear c27; try clear c27b0; try clear c27b1; try clear c27b2; try clear c29; try clear c29b0; try clear c30; try clear c30b0; try clear c31; try clear c31b0; try clear c32; try clear p32; try clear q32; try clear hx32; try clear hf32; try clear c33; try clear p33; try clear q33; try clear hx33; try clear hf33; try clear p35; try clear q35; try clear hx35; try clear c36; try clear p36; try clear q36; try clear hx36; try clear c37; try clear c39; try clear c39b0; try clear c40; try clear c40b0; try clear c42; try clear c44; try clear c44b0; try clear c52; try clear c52b0; try clear hcz13_0; try clear hcz13_1; try clear hcz13_2; try clear hcz16_0; try clear hcz16_1; try clear hcz16_2; try clear hcz18_0; try clear hcz18_1; try clear hcz18_2; try clear hcz20_0; try clear hcz20_1; try clear hcz20_2; try clear hcz54_0; try clear hcz54_1; try clear hcz54_2; try clear hfz13_0; try clear hfz13_1; try clear hfz13_2; try clear hfz16_0; try clear hfz16_1; try clear hfz16_2; try clear hfz18_0; try clear hfz18_1; try clear hfz18_2; try clear hfz20_0; try clear hfz20_1; try clear hfz20_2; try clear hfz54_0; try clear hfz54_1; try clear hfz54_2; try clear hx32_0; try clear hx32_1; try clear hx32_2; try clear hx33_0; try clear hx33_1; try clear hx33_2; try clear hx351_0; try clear hx351_1; try clear hx351_2; try clear hx352_0; try clear hx352_1; try clear hx352_2; try clear hx355_0; try clear hx355_1; try clear hx355_2; try clear hx357_0; try clear hx357_1; try clear hx357_2; try clear hx361_0; try clear hx361_1; try clear hx361_2; try clear p2; try clear p3; try clear p32; try clear p33; try clear p35; try clear p351; try clear p352; try clear p355; try clear p357; try clear p36; try clear p361; try clear p6; try clear q3; try clear q32; try clear q33; try clear q35; try clear q351; try clear q352; try clear q355; try clear q357; try clear q36; try clear q361
               obtain ⟨kq, x104_50, rfl, HA, HJ50, HO_12, HO_13, BK344, HB⟩ := hcut
               cases kq with
               | zero => exact absurd HA.out (by simp [leatlaw11_WindowOrder.j4])
               | succ kj50 =>
                have H := HA.out
                clear HA
                simp only [leatlaw11_WindowOrder.j4] at H
                by_cases c56 : x104_50 = true
                ·subst c56
                 have H1 : (if 0 ≤ x15_4 then (if x15_4 < (x12_3.length : Int) then (if 0 ≤ (wrap64 (x15_4 - 1)) then (if (wrap64 (x15_4 - 1)) < (x12_3.length : Int) then (if ((rd_T46 x12_3 x15_4).f0) = ((rd_T46 x12_3 (wrap64 (x15_4 - 1))).f0) then (if ((rd_T46 x12_3 x15_4).f1.f0) < ((rd_T46 x12_3 (wrap64 (x15_4 - 1))).f1.f1) then (none) else (leatlaw11_WindowOrder.l2 kj50 x12_3 x13_3 (wrap64 (x15_4 + 1)) a0_0 a0_1 a0_2)) else (leatlaw11_WindowOrder.l2 kj50 x12_3 x13_3 (wrap64 (x15_4 + 1)) a0_0 a0_1 a0_2)) else (none)) else (none)) else (none)) else (none)) = some r := by rw [if_pos rfl] at H; exact H
                 clear H
                 have H := H1
                 clear H1
                 by_cases c57 : 0 ≤ x15_4
                 ·rw [if_pos c57] at H
                  have c57b0 : decide (0 ≤ x15_4) = true := decide_eq_true c57
                  clear c57
                  by_cases c58 : x15_4 < (x12_3.length : Int)
                  ·rw [if_pos c58] at H
                   have c58b0 : decide (x15_4 < (x12_3.length : Int)) = true := decide_eq_true c58
                   clear c58
                   obtain ⟨ji59, hji59⟩ : ∃ j_ : Int, (wrap64 (x15_4 - 1)) = j_ := ⟨_, rfl⟩
                   replace H : (if 0 ≤ (ji59) then (if (ji59) < (x12_3.length : Int) then (if ((rd_T46 x12_3 x15_4).f0) = ((rd_T46 x12_3 (ji59)).f0) then (if ((rd_T46 x12_3 x15_4).f1.f0) < ((rd_T46 x12_3 (ji59)).f1.f1) then (none) else (leatlaw11_WindowOrder.l2 kj50 x12_3 x13_3 (wrap64 (x15_4 + 1)) a0_0 a0_1 a0_2)) else (leatlaw11_WindowOrder.l2 kj50 x12_3 x13_3 (wrap64 (x15_4 + 1)) a0_0 a0_1 a0_2)) else (none)) else (none)) = some r := by first | (rw [hji59] at H; exact H) | (simp only [hji59] at H ⊢; exact H)
                   have hji59w : (IntKind.i64.wrap (x15_4 - 1)) = ji59 := (i64_w _).trans hji59
                   by_cases c60 : 0 ≤ (ji59)
                   ·rw [if_pos c60] at H
                    have c60b0 : decide (0 ≤ (ji59)) = true := decide_eq_true c60
                    clear c60
                    by_cases c61 : (ji59) < (x12_3.length : Int)
                    ·rw [if_pos c61] at H
                     have c61b0 : decide ((ji59) < (x12_3.length : Int)) = true := decide_eq_true c61
                     clear c61
                     by_cases c62 : ((rd_T46 x12_3 x15_4).f0) = ((rd_T46 x12_3 (ji59)).f0)
                     ·rw [if_pos c62] at H
                      have c62b0 : (((rd_T46 x12_3 x15_4).f0) == ((rd_T46 x12_3 (ji59)).f0)) = true := beq_iff_eq.mpr c62
                      have c62b1 : (((rd_T46 x12_3 x15_4).f0) != ((rd_T46 x12_3 (ji59)).f0)) = false := bne_eq_false_iff_eq.mpr c62
                      clear c62
                      by_cases c63 : ((rd_T46 x12_3 x15_4).f1.f0) < ((rd_T46 x12_3 (ji59)).f1.f1)
                      ·rw [if_pos c63] at H
                       exact absurd H (by simp)
                      ·rw [if_neg c63] at H
                       have c63b0 : decide (((rd_T46 x12_3 x15_4).f1.f0) < ((rd_T46 x12_3 (ji59)).f1.f1)) = false := decide_eq_false c63
                       clear c63
                       have H' := Aside0.mk H
                       clear H
                       try go_wp2
                       have n0_ := Aside0.mk (Kd.R_drew HO_12.out)
                       have n1_ := Aside0.mk (Kd.R_drew HO_13.out)
                       have n2_ := Aside0.mk (blk_drew BK344.out)
                       have n3_ := Aside0.mk (below_drew1 HB.out)
                       clear HO_12
                       clear HO_13
                       clear BK344
                       clear HB
                       have HO_12 := n0_
                       have HO_13 := n1_
                       have BK344 := n2_
                       have HB := n3_
                       clear n0_ n1_ n2_ n3_
                       obtain ⟨Ao65, co65, eo65⟩ := Kd.R_slice HO_12.out
                       (first | subst eo65 | (injection eo65 with f1_ f2_ f3_; have f4_ := f1_.symm; have f5_ := f3_.symm; clear f1_ f2_ f3_; subst f4_; subst f5_))
                       have p365 : 0 ≤ (x15_4 : Int) := of_decide_eq_true (by first | (with_reducible assumption) | assumption)
                       have q365 : x15_4 < (x12_3.length : Int) := of_decide_eq_true (by first | (with_reducible assumption) | assumption)
                       obtain ⟨ad365, e365, hx365_0, hx365_1, hx365_2, hx365_3⟩ := at_T46 (Kd.R_reads' HO_12.out).2.2 x15_4 p365 q365
                       cases e365
                       replace p365 := eq_true p365
                       replace q365 := eq_true q365
                       have p366 : 0 ≤ ((ji59) : Int) := of_decide_eq_true (by first | (with_reducible assumption) | assumption)
                       have q366 : (ji59) < (x12_3.length : Int) := of_decide_eq_true (by first | (with_reducible assumption) | assumption)
                       obtain ⟨ad366, e366, hx366_0, hx366_1, hx366_2, hx366_3⟩ := at_T46 (Kd.R_reads' HO_12.out).2.2 (ji59) p366 q366
                       obtain rfl : ad365 = ad366 := (by injection e366)
                       replace p366 := eq_true p366
                       replace q366 := eq_true q366
                       have p367 : 0 ≤ (x15_4 : Int) := of_decide_eq_true (by first | (with_reducible assumption) | assumption)
                       have q367 : x15_4 < (x12_3.length : Int) := of_decide_eq_true (by first | (with_reducible assumption) | assumption)
                       obtain ⟨ad367, e367, hx367_0, hx367_1, hx367_2, hx367_3⟩ := at_T46 (Kd.R_reads' HO_12.out).2.2 x15_4 p367 q367
                       obtain rfl : ad365 = ad367 := (by injection e367)
                       replace p367 := eq_true p367
                       replace q367 := eq_true q367
                       have p368 : 0 ≤ ((ji59) : Int) := of_decide_eq_true (by first | (with_reducible assumption) | assumption)
                       have q368 : (ji59) < (x12_3.length : Int) := of_decide_eq_true (by first | (with_reducible assumption) | assumption)
                       obtain ⟨ad368, e368, hx368_0, hx368_1, hx368_2, hx368_3⟩ := at_T46 (Kd.R_reads' HO_12.out).2.2 (ji59) p368 q368
                       obtain rfl : ad365 = ad368 := (by injection e368)
                       replace p368 := eq_true p368
                       replace q368 := eq_true q368
                       refine start_ (n := 28) (S := fun w' => w'.cell? (ad365.add ((x15_4).toNat * 4)) = some (.int .i64 ((rd_T46 x12_3 x15_4).f0)) ∧ w'.cell? ⟨(ad365.add ((x15_4).toNat * 4)).block, (ad365.add ((x15_4).toNat * 4)).off + 1, none⟩ = some (.int .i64 ((rd_T46 x12_3 x15_4).f1.f0)) ∧ w'.cell? ⟨(ad365.add ((x15_4).toNat * 4)).block, (ad365.add ((x15_4).toNat * 4)).off + 2, none⟩ = some (.int .i64 ((rd_T46 x12_3 x15_4).f1.f1)) ∧ w'.cell? ⟨(ad365.add ((x15_4).toNat * 4)).block, (ad365.add ((x15_4).toNat * 4)).off + 3, none⟩ = some (.int .i64 ((rd_T46 x12_3 x15_4).f2)) ∧ w'.cell? (ad365.add (((ji59)).toNat * 4)) = some (.int .i64 ((rd_T46 x12_3 (ji59)).f0)) ∧ w'.cell? ⟨(ad365.add (((ji59)).toNat * 4)).block, (ad365.add (((ji59)).toNat * 4)).off + 1, none⟩ = some (.int .i64 ((rd_T46 x12_3 (ji59)).f1.f0)) ∧ w'.cell? ⟨(ad365.add (((ji59)).toNat * 4)).block, (ad365.add (((ji59)).toNat * 4)).off + 2, none⟩ = some (.int .i64 ((rd_T46 x12_3 (ji59)).f1.f1)) ∧ w'.cell? ⟨(ad365.add (((ji59)).toNat * 4)).block, (ad365.add (((ji59)).toNat * 4)).off + 3, none⟩ = some (.int .i64 ((rd_T46 x12_3 (ji59)).f2)) ∧ w'.cell? (ad365.add ((x15_4).toNat * 4)) = some (.int .i64 ((rd_T46 x12_3 x15_4).f0)) ∧ w'.cell? ⟨(ad365.add ((x15_4).toNat * 4)).block, (ad365.add ((x15_4).toNat * 4)).off + 1, none⟩ = some (.int .i64 ((rd_T46 x12_3 x15_4).f1.f0)) ∧ w'.cell? ⟨(ad365.add ((x15_4).toNat * 4)).block, (ad365.add ((x15_4).toNat * 4)).off + 2, none⟩ = some (.int .i64 ((rd_T46 x12_3 x15_4).f1.f1)) ∧ w'.cell? ⟨(ad365.add ((x15_4).toNat * 4)).block, (ad365.add ((x15_4).toNat * 4)).off + 3, none⟩ = some (.int .i64 ((rd_T46 x12_3 x15_4).f2)) ∧ w'.cell? (ad365.add (((ji59)).toNat * 4)) = some (.int .i64 ((rd_T46 x12_3 (ji59)).f0)) ∧ w'.cell? ⟨(ad365.add (((ji59)).toNat * 4)).block, (ad365.add (((ji59)).toNat * 4)).off + 1, none⟩ = some (.int .i64 ((rd_T46 x12_3 (ji59)).f1.f0)) ∧ w'.cell? ⟨(ad365.add (((ji59)).toNat * 4)).block, (ad365.add (((ji59)).toNat * 4)).off + 2, none⟩ = some (.int .i64 ((rd_T46 x12_3 (ji59)).f1.f1)) ∧ w'.cell? ⟨(ad365.add (((ji59)).toNat * 4)).block, (ad365.add (((ji59)).toNat * 4)).off + 3, none⟩ = some (.int .i64 ((rd_T46 x12_3 (ji59)).f2))) (ds := []) #[false, false, false, false, false, false, false, false, false, false, false, false, false, false, false, false, false, false, false, false, false, false, false, false, false, false, false, false] (by kernel_rfl) rfl rfl ⟨hx365_0, hx365_1, hx365_2, hx365_3, hx366_0, hx366_1, hx366_2, hx366_3, hx367_0, hx367_1, hx367_2, hx367_3, hx368_0, hx368_1, hx368_2, hx368_3⟩ (fun hHeld => ?_); refine with_tabW leatlaw11_WindowOrder.tab21 leatlaw11_WindowOrder.bits21 (fun HT_ HW_ => ?_)
                       generalize wc.drew = w64 at HO_12 HO_13 BK344 HB hx365_0 hx365_1 hx365_2 hx365_3 hx366_0 hx366_1 hx366_2 hx366_3 hx367_0 hx367_1 hx367_2 hx367_3 hx368_0 hx368_1 hx368_2 hx368_3 hHeld ⊢
                       refine pure_ (i := 0) (N := some 107) (v := ?_) (a' := ?_) #[true, false, false, false, false, false, false, false, false, false, false, false, false, false, false, false, false, false, false, false, false, false, false, false, false, false, false, false] rfl rfl (any_of HT_.out (by kernel_rfl)) (fun _ _ _ h => h) (Or.inl ⟨by rfl, ?_⟩) ?_ ?_
                       rotate_left
                       ·intro w'
                        go_simp
                        with_reducible rfl
                       rotate_left
                       ·simp only [Act.put, List.setIfInBounds_toArray, List.set_cons_zero, List.set_cons_succ, i64_w, i32_w]
                        rfl
                       refine pure_ (i := 1) (N := some 108) (v := ?_) (a' := ?_) #[true, true, false, false, false, false, false, false, false, false, false, false, false, false, false, false, false, false, false, false, false, false, false, false, false, false, false, false] rfl rfl (any_of HT_.out (by kernel_rfl)) (fun _ _ _ h => h) (Or.inl ⟨by rfl, ?_⟩) ?_ ?_
                       rotate_left
                       ·intro w'
                        go_simp
                        with_reducible rfl
                       rotate_left
                       ·simp only [Act.put, List.setIfInBounds_toArray, List.set_cons_zero, List.set_cons_succ, i64_w, i32_w]
                        rfl
                       refine pure_ (i := 2) (N := some 109) (v := ?_) (a' := ?_) #[true, true, true, false, false, false, false, false, false, false, false, false, false, false, false, false, false, false, false, false, false, false, false, false, false, false, false, false] rfl rfl (any_of HT_.out (by kernel_rfl)) (fun _ _ _ h => h) (Or.inl ⟨by rfl, ?_⟩) ?_ ?_
                       rotate_left
                       ·intro w'
                        go_simp
                        with_reducible rfl
                       rotate_left
                       ·simp only [Act.put, List.setIfInBounds_toArray, List.set_cons_zero, List.set_cons_succ, i64_w, i32_w]
                        rfl
                       refine pure_ (i := 3) (N := some 110) (v := ?_) (a' := ?_) #[true, true, true, true, false, false, false, false, false, false, false, false, false, false, false, false, false, false, false, false, false, false, false, false, false, false, false, false] rfl rfl (any_of HT_.out (by kernel_rfl)) (fun _ _ _ h => h) (Or.inl ⟨by rfl, ?_⟩) ?_ ?_
                       rotate_left
                       ·intro w'
                        go_simp
                        with_reducible rfl
                       rotate_left
                       ·simp only [Act.put, List.setIfInBounds_toArray, List.set_cons_zero, List.set_cons_succ, i64_w, i32_w]
                        rfl
                       refine pure_ (i := 5) (N := some 112) (v := ?_) (a' := ?_) #[true, true, true, true, false, true, false, false, false, false, false, false, false, false, false, false, false, false, false, false, false, false, false, false, false, false, false, false] rfl rfl (any_of HT_.out (by kernel_rfl)) (fun _ _ _ h => h) (Or.inl ⟨by rfl, ?_⟩) ?_ ?_
                       rotate_left
                       ·intro w'
                        go_simp
                        with_reducible rfl
                       rotate_left
                       ·simp only [Act.put, List.setIfInBounds_toArray, List.set_cons_zero, List.set_cons_succ, i64_w, i32_w]
                        rfl
                       refine pure_ (i := 6) (N := some 113) (v := ?_) (a' := ?_) #[true, true, true, true, false, true, true, false, false, false, false, false, false, false, false, false, false, false, false, false, false, false, false, false, false, false, false, false] rfl rfl (any_of HT_.out (by kernel_rfl)) (fun _ _ _ h => h) (Or.inl ⟨by rfl, ?_⟩) ?_ ?_
                       rotate_left
                       ·intro w'
                        go_simp
                        with_reducible rfl
                       rotate_left
                       ·simp only [Act.put, List.setIfInBounds_toArray, List.set_cons_zero, List.set_cons_succ, i64_w, i32_w]
                        rfl
                       refine pure_ (i := 7) (N := some 114) (v := ?_) (a' := ?_) #[true, true, true, true, false, true, true, true, false, false, false, false, false, false, false, false, false, false, false, false, false, false, false, false, false, false, false, false] rfl rfl (any_of HT_.out (by kernel_rfl)) (fun _ _ _ h => h) (Or.inl ⟨by rfl, ?_⟩) ?_ ?_
                       rotate_left
                       ·intro w'
                        go_simp
                        with_reducible rfl
                       rotate_left
                       ·simp only [Act.put, List.setIfInBounds_toArray, List.set_cons_zero, List.set_cons_succ, i64_w, i32_w]
                        rfl
                       refine pure_ (i := 8) (N := some 115) (v := ?_) (a' := ?_) #[true, true, true, true, false, true, true, true, true, false, false, false, false, false, false, false, false, false, false, false, false, false, false, false, false, false, false, false] rfl rfl (any_of HT_.out (by kernel_rfl)) (fun _ _ _ h => h) (Or.inl ⟨by rfl, ?_⟩) ?_ ?_
                       rotate_left
                       ·intro w'
                        go_simp
                        with_reducible rfl
                       rotate_left
                       ·simp only [Act.put, List.setIfInBounds_toArray, List.set_cons_zero, List.set_cons_succ, i64_w, i32_w]
                        rfl
                       refine pure_ (i := 9) (N := some 116) (v := ?_) (a' := ?_) #[true, true, true, true, false, true, true, true, true, true, false, false, false, false, false, false, false, false, false, false, false, false, false, false, false, false, false, false] rfl rfl (any_of HT_.out (by kernel_rfl)) (fun _ _ _ h => h) (Or.inl ⟨by rfl, ?_⟩) ?_ ?_
                       rotate_left
                       ·intro w'
                        go_simp
                        with_reducible rfl
                       rotate_left
                       ·simp only [Act.put, List.setIfInBounds_toArray, List.set_cons_zero, List.set_cons_succ, i64_w, i32_w]
                        rfl
                       refine take_ (i := 4) (N := some 111) (v := ?_) (a' := ?_) #[true, true, true, true, true, true, true, true, true, true, false, false, false, false, false, false, false, false, false, false, false, false, false, false, false, false, false, false] rfl rfl (take_ofW HT_.out HW_.out (by kernel_rfl)) (fun _ _ _ h => h) (Or.inl ⟨by rfl, ?_⟩) hHeld ?_ ?_
                       rotate_left
                       ·rintro w' ⟨s0, s1, s2, s3, s4, s5, s6, s7, s8, s9, s10, s11, s12, s13, s14, s15⟩
                        go_simp
                        with_reducible rfl
                       rotate_left
                       ·simp only [Act.put, List.setIfInBounds_toArray, List.set_cons_zero, List.set_cons_succ, i64_w, i32_w]
                        rfl
                       refine take_ (i := 10) (N := some 117) (v := ?_) (a' := ?_) #[true, true, true, true, true, true, true, true, true, true, true, false, false, false, false, false, false, false, false, false, false, false, false, false, false, false, false, false] rfl rfl (take_ofW HT_.out HW_.out (by kernel_rfl)) (fun _ _ _ h => h) (Or.inl ⟨by rfl, ?_⟩) hHeld ?_ ?_
                       rotate_left
                       ·rintro w' ⟨s0, s1, s2, s3, s4, s5, s6, s7, s8, s9, s10, s11, s12, s13, s14, s15⟩
                        go_simp
                        with_reducible rfl
                       rotate_left
                       ·simp only [Act.put, List.setIfInBounds_toArray, List.set_cons_zero, List.set_cons_succ, i64_w, i32_w]
                        rfl
                       refine pure_ (i := 11) (N := some 118) (v := ?_) (a' := ?_) #[true, true, true, true, true, true, true, true, true, true, true, true, false, false, false, false, false, false, false, false, false, false, false, false, false, false, false, false] rfl rfl (any_of HT_.out (by kernel_rfl)) (fun _ _ _ h => h) (Or.inl ⟨by rfl, ?_⟩) ?_ ?_
                       rotate_left
                       ·intro w'
                        go_simp
                        with_reducible rfl
                       rotate_left
                       ·simp only [Act.put, List.setIfInBounds_toArray, List.set_cons_zero, List.set_cons_succ, i64_w, i32_w]
                        rfl
                       refine pure_ (i := 12) (N := some 119) (v := ?_) (a' := ?_) #[true, true, true, true, true, true, true, true, true, true, true, true, true, false, false, false, false, false, false, false, false, false, false, false, false, false, false, false] rfl rfl (any_of HT_.out (by kernel_rfl)) (fun _ _ _ h => h) (Or.inl ⟨by rfl, ?_⟩) ?_ ?_
                       rotate_left
                       ·intro w'
                        go_simp
                        with_reducible rfl
                       rotate_left
                       ·simp only [Act.put, List.setIfInBounds_toArray, List.set_cons_zero, List.set_cons_succ, i64_w, i32_w]
                        rfl
                       refine pure_ (i := 13) (N := some 120) (v := ?_) (a' := ?_) #[true, true, true, true, true, true, true, true, true, true, true, true, true, true, false, false, false, false, false, false, false, false, false, false, false, false, false, false] rfl rfl (any_of HT_.out (by kernel_rfl)) (fun _ _ _ h => h) (Or.inl ⟨by rfl, ?_⟩) ?_ ?_
                       rotate_left
                       ·intro w'
                        go_simp
                        with_reducible rfl
                       rotate_left
                       ·simp only [Act.put, List.setIfInBounds_toArray, List.set_cons_zero, List.set_cons_succ, i64_w, i32_w]
                        rfl
                       refine pure_ (i := 14) (N := some 121) (v := ?_) (a' := ?_) #[true, true, true, true, true, true, true, true, true, true, true, true, true, true, true, false, false, false, false, false, false, false, false, false, false, false, false, false] rfl rfl (any_of HT_.out (by kernel_rfl)) (fun _ _ _ h => h) (Or.inl ⟨by rfl, ?_⟩) ?_ ?_
                       rotate_left
                       ·intro w'
                        go_simp
                        with_reducible rfl
                       rotate_left
                       ·simp only [Act.put, List.setIfInBounds_toArray, List.set_cons_zero, List.set_cons_succ, i64_w, i32_w]
                        rfl
                       refine pure_ (i := 15) (N := some 122) (v := ?_) (a' := ?_) #[true, true, true, true, true, true, true, true, true, true, true, true, true, true, true, true, false, false, false, false, false, false, false, false, false, false, false, false] rfl rfl (any_of HT_.out (by kernel_rfl)) (fun _ _ _ h => h) (Or.inl ⟨by rfl, ?_⟩) ?_ ?_
                       rotate_left
                       ·intro w'
                        go_simp
                        with_reducible rfl
                       rotate_left
                       ·simp only [Act.put, List.setIfInBounds_toArray, List.set_cons_zero, List.set_cons_succ, i64_w, i32_w]
                        rfl
                       refine pure_ (i := 16) (N := some 123) (v := ?_) (a' := ?_) #[true, true, true, true, true, true, true, true, true, true, true, true, true, true, true, true, true, false, false, false, false, false, false, false, false, false, false, false] rfl rfl (any_of HT_.out (by kernel_rfl)) (fun _ _ _ h => h) (Or.inl ⟨by rfl, ?_⟩) ?_ ?_
                       rotate_left
                       ·intro w'
                        go_simp
                        with_reducible rfl
                       rotate_left
                       ·simp only [Act.put, List.setIfInBounds_toArray, List.set_cons_zero, List.set_cons_succ, i64_w, i32_w]
                        rfl
                       refine pure_ (i := 17) (N := some 124) (v := ?_) (a' := ?_) #[true, true, true, true, true, true, true, true, true, true, true, true, true, true, true, true, true, true, false, false, false, false, false, false, false, false, false, false] rfl rfl (any_of HT_.out (by kernel_rfl)) (fun _ _ _ h => h) (Or.inl ⟨by rfl, ?_⟩) ?_ ?_
                       rotate_left
                       ·intro w'
                        go_simp
                        with_reducible rfl
                       rotate_left
                       ·simp only [Act.put, List.setIfInBounds_toArray, List.set_cons_zero, List.set_cons_succ, i64_w, i32_w]
                        rfl
                       refine pure_ (i := 19) (N := some 126) (v := ?_) (a' := ?_) #[true, true, true, true, true, true, true, true, true, true, true, true, true, true, true, true, true, true, false, true, false, false, false, false, false, false, false, false] rfl rfl (any_of HT_.out (by kernel_rfl)) (fun _ _ _ h => h) (Or.inl ⟨by rfl, ?_⟩) ?_ ?_
                       rotate_left
                       ·intro w'
                        go_simp
                        with_reducible rfl
                       rotate_left
                       ·simp only [Act.put, List.setIfInBounds_toArray, List.set_cons_zero, List.set_cons_succ, i64_w, i32_w]
                        rfl
                       refine pure_ (i := 20) (N := some 127) (v := ?_) (a' := ?_) #[true, true, true, true, true, true, true, true, true, true, true, true, true, true, true, true, true, true, false, true, true, false, false, false, false, false, false, false] rfl rfl (any_of HT_.out (by kernel_rfl)) (fun _ _ _ h => h) (Or.inl ⟨by rfl, ?_⟩) ?_ ?_
                       rotate_left
                       ·intro w'
                        go_simp
                        with_reducible rfl
                       rotate_left
                       ·simp only [Act.put, List.setIfInBounds_toArray, List.set_cons_zero, List.set_cons_succ, i64_w, i32_w]
                        rfl
                       refine pure_ (i := 21) (N := some 128) (v := ?_) (a' := ?_) #[true, true, true, true, true, true, true, true, true, true, true, true, true, true, true, true, true, true, false, true, true, true, false, false, false, false, false, false] rfl rfl (any_of HT_.out (by kernel_rfl)) (fun _ _ _ h => h) (Or.inl ⟨by rfl, ?_⟩) ?_ ?_
                       rotate_left
                       ·intro w'
                        go_simp
                        with_reducible rfl
                       rotate_left
                       ·simp only [Act.put, List.setIfInBounds_toArray, List.set_cons_zero, List.set_cons_succ, i64_w, i32_w]
                        rfl
                       refine pure_ (i := 22) (N := some 129) (v := ?_) (a' := ?_) #[true, true, true, true, true, true, true, true, true, true, true, true, true, true, true, true, true, true, false, true, true, true, true, false, false, false, false, false] rfl rfl (any_of HT_.out (by kernel_rfl)) (fun _ _ _ h => h) (Or.inl ⟨by rfl, ?_⟩) ?_ ?_
                       rotate_left
                       ·intro w'
                        go_simp
                        with_reducible rfl
                       rotate_left
                       ·simp only [Act.put, List.setIfInBounds_toArray, List.set_cons_zero, List.set_cons_succ, i64_w, i32_w]
                        rfl
                       refine pure_ (i := 23) (N := some 130) (v := ?_) (a' := ?_) #[true, true, true, true, true, true, true, true, true, true, true, true, true, true, true, true, true, true, false, true, true, true, true, true, false, false, false, false] rfl rfl (any_of HT_.out (by kernel_rfl)) (fun _ _ _ h => h) (Or.inl ⟨by rfl, ?_⟩) ?_ ?_
                       rotate_left
                       ·intro w'
                        go_simp
                        with_reducible rfl
                       rotate_left
                       ·simp only [Act.put, List.setIfInBounds_toArray, List.set_cons_zero, List.set_cons_succ, i64_w, i32_w]
                        rfl
                       refine pure_ (i := 24) (N := some 131) (v := ?_) (a' := ?_) #[true, true, true, true, true, true, true, true, true, true, true, true, true, true, true, true, true, true, false, true, true, true, true, true, true, false, false, false] rfl rfl (any_of HT_.out (by kernel_rfl)) (fun _ _ _ h => h) (Or.inl ⟨by rfl, ?_⟩) ?_ ?_
                       rotate_left
                       ·intro w'
                        go_simp
                        with_reducible rfl
                       rotate_left
                       ·simp only [Act.put, List.setIfInBounds_toArray, List.set_cons_zero, List.set_cons_succ, i64_w, i32_w]
                        rfl
                       refine take_ (i := 18) (N := some 125) (v := ?_) (a' := ?_) #[true, true, true, true, true, true, true, true, true, true, true, true, true, true, true, true, true, true, true, true, true, true, true, true, true, false, false, false] rfl rfl (take_ofW HT_.out HW_.out (by kernel_rfl)) (fun _ _ _ h => h) (Or.inl ⟨by rfl, ?_⟩) hHeld ?_ ?_
                       rotate_left
                       ·rintro w' ⟨s0, s1, s2, s3, s4, s5, s6, s7, s8, s9, s10, s11, s12, s13, s14, s15⟩
                        go_simp
                        with_reducible rfl
                       rotate_left
                       ·simp only [Act.put, List.setIfInBounds_toArray, List.set_cons_zero, List.set_cons_succ, i64_w, i32_w]
                        rfl
                       refine take_ (i := 25) (N := some 132) (v := ?_) (a' := ?_) #[true, true, true, true, true, true, true, true, true, true, true, true, true, true, true, true, true, true, true, true, true, true, true, true, true, true, false, false] rfl rfl (take_ofW HT_.out HW_.out (by kernel_rfl)) (fun _ _ _ h => h) (Or.inl ⟨by rfl, ?_⟩) hHeld ?_ ?_
                       rotate_left
                       ·rintro w' ⟨s0, s1, s2, s3, s4, s5, s6, s7, s8, s9, s10, s11, s12, s13, s14, s15⟩
                        go_simp
                        with_reducible rfl
                       rotate_left
                       ·simp only [Act.put, List.setIfInBounds_toArray, List.set_cons_zero, List.set_cons_succ, i64_w, i32_w]
                        rfl
                       refine pure_ (i := 26) (N := some 133) (v := ?_) (a' := ?_) #[true, true, true, true, true, true, true, true, true, true, true, true, true, true, true, true, true, true, true, true, true, true, true, true, true, true, true, false] rfl rfl (any_of HT_.out (by kernel_rfl)) (fun _ _ _ h => h) (Or.inl ⟨by rfl, ?_⟩) ?_ ?_
                       rotate_left
                       ·intro w'
                        go_simp
                        with_reducible rfl
                       rotate_left
                       ·simp only [Act.put, List.setIfInBounds_toArray, List.set_cons_zero, List.set_cons_succ, i64_w, i32_w]
                        rfl
                       refine pure_ (i := 27) (N := some 134) (v := ?_) (a' := ?_) #[true, true, true, true, true, true, true, true, true, true, true, true, true, true, true, true, true, true, true, true, true, true, true, true, true, true, true, true] rfl rfl (any_of HT_.out (by kernel_rfl)) (fun _ _ _ h => h) (Or.inl ⟨by rfl, ?_⟩) ?_ ?_
                       rotate_left
                       ·intro w'
                        go_simp
                        with_reducible rfl
                       rotate_left
                       ·simp only [Act.put, List.setIfInBounds_toArray, List.set_cons_zero, List.set_cons_succ, i64_w, i32_w]
                        rfl
                       refine done_ (done_of HT_.out (by kernel_rfl)) ?_
                       try go_wp2
                       go_roundg kj50
                       case measure => have := HJ6.out; have := HK2.out; have := HK3.out; have := HK4.out; have := HJ50.out; omega
                       case rel => exact ⟨(wrap64 (x15_4 + 1)), (by first | rfl | (simp; done) | (simp [*]; done)), H', ⟨by have := HJ6.out; have := HK2.out; have := HK3.out; have := HK4.out; have := HJ50.out; omega⟩, ⟨by (with_reducible repeat (first | apply Kd.R_alloc | apply Kd.R_drewN | apply Kd.R_drew)); exact HO_12.out⟩, ⟨by (with_reducible repeat (first | apply Kd.R_alloc | apply Kd.R_drewN | apply Kd.R_drew)); exact HO_13.out⟩, ⟨by (with_reducible repeat (first | refine blk_drewN ?_ _ | refine blk_drew ?_ | refine blk_alloc ?_ _)); exact BK344.out⟩, ⟨by repeat (first | (with_reducible first | exact HB.out | apply below_alloc | apply pw_below_drewN | apply below_drew1 | refine below_set ?_ GE344.out) | exact HB.out)⟩⟩
                     ·rw [if_neg c62] at H
                      have c62b0 : (((rd_T46 x12_3 x15_4).f0) == ((rd_T46 x12_3 (ji59)).f0)) = false := beq_eq_false_iff_ne.mpr c62
                      have c62b1 : (((rd_T46 x12_3 x15_4).f0) != ((rd_T46 x12_3 (ji59)).f0)) = true := bne_iff_ne.mpr c62
                      have H' := Aside0.mk H
                      clear H
                      try go_wp2
                      have n0_ := Aside0.mk (Kd.R_drew HO_12.out)
                      have n1_ := Aside0.mk (Kd.R_drew HO_13.out)
                      have n2_ := Aside0.mk (blk_drew BK344.out)
                      have n3_ := Aside0.mk (below_drew1 HB.out)
                      clear HO_12
                      clear HO_13
                      clear BK344
                      clear HB
                      have HO_12 := n0_
                      have HO_13 := n1_
                      have BK344 := n2_
                      have HB := n3_
                      clear n0_ n1_ n2_ n3_
                      obtain ⟨Ao67, co67, eo67⟩ := Kd.R_slice HO_12.out
                      (first | subst eo67 | (injection eo67 with f1_ f2_ f3_; have f4_ := f1_.symm; have f5_ := f3_.symm; clear f1_ f2_ f3_; subst f4_; subst f5_))
                      have p365 : 0 ≤ (x15_4 : Int) := of_decide_eq_true (by first | (with_reducible assumption) | assumption)
                      have q365 : x15_4 < (x12_3.length : Int) := of_decide_eq_true (by first | (with_reducible assumption) | assumption)
                      obtain ⟨ad365, e365, hx365_0, hx365_1, hx365_2, hx365_3⟩ := at_T46 (Kd.R_reads' HO_12.out).2.2 x15_4 p365 q365
                      cases e365
                      replace p365 := eq_true p365
                      replace q365 := eq_true q365
                      have p366 : 0 ≤ ((ji59) : Int) := of_decide_eq_true (by first | (with_reducible assumption) | assumption)
                      have q366 : (ji59) < (x12_3.length : Int) := of_decide_eq_true (by first | (with_reducible assumption) | assumption)
                      obtain ⟨ad366, e366, hx366_0, hx366_1, hx366_2, hx366_3⟩ := at_T46 (Kd.R_reads' HO_12.out).2.2 (ji59) p366 q366
                      obtain rfl : ad365 = ad366 := (by injection e366)
                      replace p366 := eq_true p366
                      replace q366 := eq_true q366
                      refine start_ (n := 28) (S := fun w' => w'.cell? (ad365.add ((x15_4).toNat * 4)) = some (.int .i64 ((rd_T46 x12_3 x15_4).f0)) ∧ w'.cell? ⟨(ad365.add ((x15_4).toNat * 4)).block, (ad365.add ((x15_4).toNat * 4)).off + 1, none⟩ = some (.int .i64 ((rd_T46 x12_3 x15_4).f1.f0)) ∧ w'.cell? ⟨(ad365.add ((x15_4).toNat * 4)).block, (ad365.add ((x15_4).toNat * 4)).off + 2, none⟩ = some (.int .i64 ((rd_T46 x12_3 x15_4).f1.f1)) ∧ w'.cell? ⟨(ad365.add ((x15_4).toNat * 4)).block, (ad365.add ((x15_4).toNat * 4)).off + 3, none⟩ = some (.int .i64 ((rd_T46 x12_3 x15_4).f2)) ∧ w'.cell? (ad365.add (((ji59)).toNat * 4)) = some (.int .i64 ((rd_T46 x12_3 (ji59)).f0)) ∧ w'.cell? ⟨(ad365.add (((ji59)).toNat * 4)).block, (ad365.add (((ji59)).toNat * 4)).off + 1, none⟩ = some (.int .i64 ((rd_T46 x12_3 (ji59)).f1.f0)) ∧ w'.cell? ⟨(ad365.add (((ji59)).toNat * 4)).block, (ad365.add (((ji59)).toNat * 4)).off + 2, none⟩ = some (.int .i64 ((rd_T46 x12_3 (ji59)).f1.f1)) ∧ w'.cell? ⟨(ad365.add (((ji59)).toNat * 4)).block, (ad365.add (((ji59)).toNat * 4)).off + 3, none⟩ = some (.int .i64 ((rd_T46 x12_3 (ji59)).f2))) (ds := []) #[false, false, false, false, false, false, false, false, false, false, false, false, false, false, false, false, false, false, false, false, false, false, false, false, false, false, false, false] (by kernel_rfl) rfl rfl ⟨hx365_0, hx365_1, hx365_2, hx365_3, hx366_0, hx366_1, hx366_2, hx366_3⟩ (fun hHeld => ?_); refine with_tabW leatlaw11_WindowOrder.tab21 leatlaw11_WindowOrder.bits21 (fun HT_ HW_ => ?_)
                      generalize wc.drew = w66 at HO_12 HO_13 BK344 HB hx365_0 hx365_1 hx365_2 hx365_3 hx366_0 hx366_1 hx366_2 hx366_3 hHeld ⊢
                      refine pure_ (i := 0) (N := some 107) (v := ?_) (a' := ?_) #[true, false, false, false, false, false, false, false, false, false, false, false, false, false, false, false, false, false, false, false, false, false, false, false, false, false, false, false] rfl rfl (any_of HT_.out (by kernel_rfl)) (fun _ _ _ h => h) (Or.inl ⟨by rfl, ?_⟩) ?_ ?_
                      rotate_left
                      ·intro w'
                       go_simp
                       with_reducible rfl
                      rotate_left
                      ·simp only [Act.put, List.setIfInBounds_toArray, List.set_cons_zero, List.set_cons_succ, i64_w, i32_w]
                       rfl
                      refine pure_ (i := 1) (N := some 108) (v := ?_) (a' := ?_) #[true, true, false, false, false, false, false, false, false, false, false, false, false, false, false, false, false, false, false, false, false, false, false, false, false, false, false, false] rfl rfl (any_of HT_.out (by kernel_rfl)) (fun _ _ _ h => h) (Or.inl ⟨by rfl, ?_⟩) ?_ ?_
                      rotate_left
                      ·intro w'
                       go_simp
                       with_reducible rfl
                      rotate_left
                      ·simp only [Act.put, List.setIfInBounds_toArray, List.set_cons_zero, List.set_cons_succ, i64_w, i32_w]
                       rfl
                      refine pure_ (i := 2) (N := some 109) (v := ?_) (a' := ?_) #[true, true, true, false, false, false, false, false, false, false, false, false, false, false, false, false, false, false, false, false, false, false, false, false, false, false, false, false] rfl rfl (any_of HT_.out (by kernel_rfl)) (fun _ _ _ h => h) (Or.inl ⟨by rfl, ?_⟩) ?_ ?_
                      rotate_left
                      ·intro w'
                       go_simp
                       with_reducible rfl
                      rotate_left
                      ·simp only [Act.put, List.setIfInBounds_toArray, List.set_cons_zero, List.set_cons_succ, i64_w, i32_w]
                       rfl
                      refine pure_ (i := 3) (N := some 110) (v := ?_) (a' := ?_) #[true, true, true, true, false, false, false, false, false, false, false, false, false, false, false, false, false, false, false, false, false, false, false, false, false, false, false, false] rfl rfl (any_of HT_.out (by kernel_rfl)) (fun _ _ _ h => h) (Or.inl ⟨by rfl, ?_⟩) ?_ ?_
                      rotate_left
                      ·intro w'
                       go_simp
                       with_reducible rfl
                      rotate_left
                      ·simp only [Act.put, List.setIfInBounds_toArray, List.set_cons_zero, List.set_cons_succ, i64_w, i32_w]
                       rfl
                      refine pure_ (i := 5) (N := some 112) (v := ?_) (a' := ?_) #[true, true, true, true, false, true, false, false, false, false, false, false, false, false, false, false, false, false, false, false, false, false, false, false, false, false, false, false] rfl rfl (any_of HT_.out (by kernel_rfl)) (fun _ _ _ h => h) (Or.inl ⟨by rfl, ?_⟩) ?_ ?_
                      rotate_left
                      ·intro w'
                       go_simp
                       with_reducible rfl
                      rotate_left
                      ·simp only [Act.put, List.setIfInBounds_toArray, List.set_cons_zero, List.set_cons_succ, i64_w, i32_w]
                       rfl
                      refine pure_ (i := 6) (N := some 113) (v := ?_) (a' := ?_) #[true, true, true, true, false, true, true, false, false, false, false, false, false, false, false, false, false, false, false, false, false, false, false, false, false, false, false, false] rfl rfl (any_of HT_.out (by kernel_rfl)) (fun _ _ _ h => h) (Or.inl ⟨by rfl, ?_⟩) ?_ ?_
                      rotate_left
                      ·intro w'
                       go_simp
                       with_reducible rfl
                      rotate_left
                      ·simp only [Act.put, List.setIfInBounds_toArray, List.set_cons_zero, List.set_cons_succ, i64_w, i32_w]
                       rfl
                      refine pure_ (i := 7) (N := some 114) (v := ?_) (a' := ?_) #[true, true, true, true, false, true, true, true, false, false, false, false, false, false, false, false, false, false, false, false, false, false, false, false, false, false, false, false] rfl rfl (any_of HT_.out (by kernel_rfl)) (fun _ _ _ h => h) (Or.inl ⟨by rfl, ?_⟩) ?_ ?_
                      rotate_left
                      ·intro w'
                       go_simp
                       with_reducible rfl
                      rotate_left
                      ·simp only [Act.put, List.setIfInBounds_toArray, List.set_cons_zero, List.set_cons_succ, i64_w, i32_w]
                       rfl
                      refine pure_ (i := 8) (N := some 115) (v := ?_) (a' := ?_) #[true, true, true, true, false, true, true, true, true, false, false, false, false, false, false, false, false, false, false, false, false, false, false, false, false, false, false, false] rfl rfl (any_of HT_.out (by kernel_rfl)) (fun _ _ _ h => h) (Or.inl ⟨by rfl, ?_⟩) ?_ ?_
                      rotate_left
                      ·intro w'
                       go_simp
                       with_reducible rfl
                      rotate_left
                      ·simp only [Act.put, List.setIfInBounds_toArray, List.set_cons_zero, List.set_cons_succ, i64_w, i32_w]
                       rfl
                      refine pure_ (i := 9) (N := some 116) (v := ?_) (a' := ?_) #[true, true, true, true, false, true, true, true, true, true, false, false, false, false, false, false, false, false, false, false, false, false, false, false, false, false, false, false] rfl rfl (any_of HT_.out (by kernel_rfl)) (fun _ _ _ h => h) (Or.inl ⟨by rfl, ?_⟩) ?_ ?_
                      rotate_left
                      ·intro w'
                       go_simp
                       with_reducible rfl
                      rotate_left
                      ·simp only [Act.put, List.setIfInBounds_toArray, List.set_cons_zero, List.set_cons_succ, i64_w, i32_w]
                       rfl
                      refine take_ (i := 4) (N := some 111) (v := ?_) (a' := ?_) #[true, true, true, true, true, true, true, true, true, true, false, false, false, false, false, false, false, false, false, false, false, false, false, false, false, false, false, false] rfl rfl (take_ofW HT_.out HW_.out (by kernel_rfl)) (fun _ _ _ h => h) (Or.inl ⟨by rfl, ?_⟩) hHeld ?_ ?_
                      rotate_left
                      ·rintro w' ⟨s0, s1, s2, s3, s4, s5, s6, s7⟩
                       go_simp
                       with_reducible rfl
                      rotate_left
                      ·simp only [Act.put, List.setIfInBounds_toArray, List.set_cons_zero, List.set_cons_succ, i64_w, i32_w]
                       rfl
                      refine take_ (i := 10) (N := some 117) (v := ?_) (a' := ?_) #[true, true, true, true, true, true, true, true, true, true, true, false, false, false, false, false, false, false, false, false, false, false, false, false, false, false, false, false] rfl rfl (take_ofW HT_.out HW_.out (by kernel_rfl)) (fun _ _ _ h => h) (Or.inl ⟨by rfl, ?_⟩) hHeld ?_ ?_
                      rotate_left
                      ·rintro w' ⟨s0, s1, s2, s3, s4, s5, s6, s7⟩
                       go_simp
                       with_reducible rfl
                      rotate_left
                      ·simp only [Act.put, List.setIfInBounds_toArray, List.set_cons_zero, List.set_cons_succ, i64_w, i32_w]
                       rfl
                      refine pure_ (i := 11) (N := some 118) (v := ?_) (a' := ?_) #[true, true, true, true, true, true, true, true, true, true, true, true, false, false, false, false, false, false, false, false, false, false, false, false, false, false, false, false] rfl rfl (any_of HT_.out (by kernel_rfl)) (fun _ _ _ h => h) (Or.inl ⟨by rfl, ?_⟩) ?_ ?_
                      rotate_left
                      ·intro w'
                       go_simp
                       with_reducible rfl
                      rotate_left
                      ·simp only [Act.put, List.setIfInBounds_toArray, List.set_cons_zero, List.set_cons_succ, i64_w, i32_w]
                       rfl
                      refine pure_ (i := 12) (N := some 119) (v := ?_) (a' := ?_) #[true, true, true, true, true, true, true, true, true, true, true, true, true, false, false, false, false, false, false, false, false, false, false, false, false, false, false, false] rfl rfl (any_of HT_.out (by kernel_rfl)) (fun _ _ _ h => h) (Or.inl ⟨by rfl, ?_⟩) ?_ ?_
                      rotate_left
                      ·intro w'
                       go_simp
                       with_reducible rfl
                      rotate_left
                      ·simp only [Act.put, List.setIfInBounds_toArray, List.set_cons_zero, List.set_cons_succ, i64_w, i32_w]
                       rfl
                      refine pure_ (i := 13) (N := some 120) (v := undef) (a' := ?_) #[true, true, true, true, true, true, true, true, true, true, true, true, true, true, false, false, false, false, false, false, false, false, false, false, false, false, false, false] rfl rfl (any_of HT_.out (by kernel_rfl)) (fun _ _ _ h => h) (Or.inr ⟨by rfl, rfl⟩) ?_ ?_
                      rotate_left
                      ·simp only [Act.put, List.setIfInBounds_toArray, List.set_cons_zero, List.set_cons_succ, i64_w, i32_w]
                       rfl
                      refine pure_ (i := 14) (N := some 121) (v := undef) (a' := ?_) #[true, true, true, true, true, true, true, true, true, true, true, true, true, true, true, false, false, false, false, false, false, false, false, false, false, false, false, false] rfl rfl (any_of HT_.out (by kernel_rfl)) (fun _ _ _ h => h) (Or.inr ⟨by rfl, rfl⟩) ?_ ?_
                      rotate_left
                      ·simp only [Act.put, List.setIfInBounds_toArray, List.set_cons_zero, List.set_cons_succ, i64_w, i32_w]
                       rfl
                      refine pure_ (i := 15) (N := some 122) (v := undef) (a' := ?_) #[true, true, true, true, true, true, true, true, true, true, true, true, true, true, true, true, false, false, false, false, false, false, false, false, false, false, false, false] rfl rfl (any_of HT_.out (by kernel_rfl)) (fun _ _ _ h => h) (Or.inr ⟨by rfl, rfl⟩) ?_ ?_
                      rotate_left
                      ·simp only [Act.put, List.setIfInBounds_toArray, List.set_cons_zero, List.set_cons_succ, i64_w, i32_w]
                       rfl
                      refine pure_ (i := 16) (N := some 123) (v := undef) (a' := ?_) #[true, true, true, true, true, true, true, true, true, true, true, true, true, true, true, true, true, false, false, false, false, false, false, false, false, false, false, false] rfl rfl (any_of HT_.out (by kernel_rfl)) (fun _ _ _ h => h) (Or.inr ⟨by rfl, rfl⟩) ?_ ?_
                      rotate_left
                      ·simp only [Act.put, List.setIfInBounds_toArray, List.set_cons_zero, List.set_cons_succ, i64_w, i32_w]
                       rfl
                      refine pure_ (i := 17) (N := some 124) (v := undef) (a' := ?_) #[true, true, true, true, true, true, true, true, true, true, true, true, true, true, true, true, true, true, false, false, false, false, false, false, false, false, false, false] rfl rfl (any_of HT_.out (by kernel_rfl)) (fun _ _ _ h => h) (Or.inr ⟨by rfl, rfl⟩) ?_ ?_
                      rotate_left
                      ·simp only [Act.put, List.setIfInBounds_toArray, List.set_cons_zero, List.set_cons_succ, i64_w, i32_w]
                       rfl
                      refine pure_ (i := 18) (N := some 125) (v := undef) (a' := ?_) #[true, true, true, true, true, true, true, true, true, true, true, true, true, true, true, true, true, true, true, false, false, false, false, false, false, false, false, false] rfl rfl (any_of HT_.out (by kernel_rfl)) (fun _ _ _ h => h) (Or.inr ⟨by rfl, rfl⟩) ?_ ?_
                      rotate_left
                      ·simp only [Act.put, List.setIfInBounds_toArray, List.set_cons_zero, List.set_cons_succ, i64_w, i32_w]
                       rfl
                      refine pure_ (i := 19) (N := some 126) (v := undef) (a' := ?_) #[true, true, true, true, true, true, true, true, true, true, true, true, true, true, true, true, true, true, true, true, false, false, false, false, false, false, false, false] rfl rfl (any_of HT_.out (by kernel_rfl)) (fun _ _ _ h => h) (Or.inr ⟨by rfl, rfl⟩) ?_ ?_
                      rotate_left
                      ·simp only [Act.put, List.setIfInBounds_toArray, List.set_cons_zero, List.set_cons_succ, i64_w, i32_w]
                       rfl
                      refine pure_ (i := 20) (N := some 127) (v := undef) (a' := ?_) #[true, true, true, true, true, true, true, true, true, true, true, true, true, true, true, true, true, true, true, true, true, false, false, false, false, false, false, false] rfl rfl (any_of HT_.out (by kernel_rfl)) (fun _ _ _ h => h) (Or.inr ⟨by rfl, rfl⟩) ?_ ?_
                      rotate_left
                      ·simp only [Act.put, List.setIfInBounds_toArray, List.set_cons_zero, List.set_cons_succ, i64_w, i32_w]
                       rfl
                      refine pure_ (i := 21) (N := some 128) (v := undef) (a' := ?_) #[true, true, true, true, true, true, true, true, true, true, true, true, true, true, true, true, true, true, true, true, true, true, false, false, false, false, false, false] rfl rfl (any_of HT_.out (by kernel_rfl)) (fun _ _ _ h => h) (Or.inr ⟨by rfl, rfl⟩) ?_ ?_
                      rotate_left
                      ·simp only [Act.put, List.setIfInBounds_toArray, List.set_cons_zero, List.set_cons_succ, i64_w, i32_w]
                       rfl
                      refine pure_ (i := 22) (N := some 129) (v := undef) (a' := ?_) #[true, true, true, true, true, true, true, true, true, true, true, true, true, true, true, true, true, true, true, true, true, true, true, false, false, false, false, false] rfl rfl (any_of HT_.out (by kernel_rfl)) (fun _ _ _ h => h) (Or.inr ⟨by rfl, rfl⟩) ?_ ?_
                      rotate_left
                      ·simp only [Act.put, List.setIfInBounds_toArray, List.set_cons_zero, List.set_cons_succ, i64_w, i32_w]
                       rfl
                      refine pure_ (i := 23) (N := some 130) (v := undef) (a' := ?_) #[true, true, true, true, true, true, true, true, true, true, true, true, true, true, true, true, true, true, true, true, true, true, true, true, false, false, false, false] rfl rfl (any_of HT_.out (by kernel_rfl)) (fun _ _ _ h => h) (Or.inr ⟨by rfl, rfl⟩) ?_ ?_
                      rotate_left
                      ·simp only [Act.put, List.setIfInBounds_toArray, List.set_cons_zero, List.set_cons_succ, i64_w, i32_w]
                       rfl
                      refine pure_ (i := 24) (N := some 131) (v := undef) (a' := ?_) #[true, true, true, true, true, true, true, true, true, true, true, true, true, true, true, true, true, true, true, true, true, true, true, true, true, false, false, false] rfl rfl (any_of HT_.out (by kernel_rfl)) (fun _ _ _ h => h) (Or.inr ⟨by rfl, rfl⟩) ?_ ?_
                      rotate_left
                      ·simp only [Act.put, List.setIfInBounds_toArray, List.set_cons_zero, List.set_cons_succ, i64_w, i32_w]
                       rfl
                      refine pure_ (i := 25) (N := some 132) (v := undef) (a' := ?_) #[true, true, true, true, true, true, true, true, true, true, true, true, true, true, true, true, true, true, true, true, true, true, true, true, true, true, false, false] rfl rfl (any_of HT_.out (by kernel_rfl)) (fun _ _ _ h => h) (Or.inr ⟨by rfl, rfl⟩) ?_ ?_
                      rotate_left
                      ·simp only [Act.put, List.setIfInBounds_toArray, List.set_cons_zero, List.set_cons_succ, i64_w, i32_w]
                       rfl
                      refine pure_ (i := 26) (N := some 133) (v := undef) (a' := ?_) #[true, true, true, true, true, true, true, true, true, true, true, true, true, true, true, true, true, true, true, true, true, true, true, true, true, true, true, false] rfl rfl (any_of HT_.out (by kernel_rfl)) (fun _ _ _ h => h) (Or.inr ⟨by rfl, rfl⟩) ?_ ?_
                      rotate_left
                      ·simp only [Act.put, List.setIfInBounds_toArray, List.set_cons_zero, List.set_cons_succ, i64_w, i32_w]
                       rfl
                      refine pure_ (i := 27) (N := some 134) (v := ?_) (a' := ?_) #[true, true, true, true, true, true, true, true, true, true, true, true, true, true, true, true, true, true, true, true, true, true, true, true, true, true, true, true] rfl rfl (any_of HT_.out (by kernel_rfl)) (fun _ _ _ h => h) (Or.inl ⟨by rfl, ?_⟩) ?_ ?_
                      rotate_left
                      ·intro w'
                       go_simp
                       with_reducible rfl
                      rotate_left
                      ·simp only [Act.put, List.setIfInBounds_toArray, List.set_cons_zero, List.set_cons_succ, i64_w, i32_w]
                       rfl
                      refine done_ (done_of HT_.out (by kernel_rfl)) ?_
                      try go_wp2
                      go_roundg kj50
                      case measure => have := HJ6.out; have := HK2.out; have := HK3.out; have := HK4.out; have := HJ50.out; omega
                      case rel => exact ⟨(wrap64 (x15_4 + 1)), (by first | rfl | (simp; done) | (simp [*]; done)), H', ⟨by have := HJ6.out; have := HK2.out; have := HK3.out; have := HK4.out; have := HJ50.out; omega⟩, ⟨by (with_reducible repeat (first | apply Kd.R_alloc | apply Kd.R_drewN | apply Kd.R_drew)); exact HO_12.out⟩, ⟨by (with_reducible repeat (first | apply Kd.R_alloc | apply Kd.R_drewN | apply Kd.R_drew)); exact HO_13.out⟩, ⟨by (with_reducible repeat (first | refine blk_drewN ?_ _ | refine blk_drew ?_ | refine blk_alloc ?_ _)); exact BK344.out⟩, ⟨by repeat (first | (with_reducible first | exact HB.out | apply below_alloc | apply pw_below_drewN | apply below_drew1 | refine below_set ?_ GE344.out) | exact HB.out)⟩⟩
                    ·rw [if_neg c61] at H
                     exact absurd H (by simp)
                   ·rw [if_neg c60] at H
                    exact absurd H (by simp)
                  ·rw [if_neg c58] at H
                   exact absurd H (by simp)
                 ·rw [if_neg c57] at H
                  exact absurd H (by simp)
                ·replace c56 := Bool.eq_false_iff.mpr c56
                 subst c56
                 have H1 : ((leathelp_Panes.f kj50 x12_3 x13_3).bind fun t369 => (some t369)) = some r := by rw [if_neg (show ¬ (false = true) by decide)] at H; exact H
                 clear H
                 have H := H1
                 clear H1
                 replace H := Option.bind_eq_some_iff.mp H
                 obtain ⟨t369, A680, H⟩ := H
                 replace H : (some t369) = some r := H
                 have A68 := Aside0.mk A680
                 clear A680
                 obtain rfl := Option.some.inj H
                 obtain ⟨Ao69, co69, eo69⟩ := Kd.R_slice HO_12.out
                 subst eo69
                 obtain ⟨Ao70, co70, eo70⟩ := Kd.R_slice HO_13.out
                 subst eo70
                 go_wp2_with (first | ((with_reducible refine gate_callee (f := 19) rfl ?_); refine goesL_ (some 137) rfl rfl Try.func19 (by kernel_rfl) rfl #[.slice Ao69 x12_3.length co69, .slice Ao70 x13_3.length co70] rfl (by (try simp only [List.map_toArray, List.map_cons, List.map_nil]); first | done | rfl | (simp only [List.length_drop, List.length_take]; rfl)) ?_; (with_reducible refine (leathelp_Panes.calls kj50 _ _ x12_3 _ _ x13_3 t369 _ ?side1 ?side2 ?side3 ?side4 A68.out).mono ?_); (case side1 => repeat (first | exact (Kd.R_reads' HO_12.out).2.2 | (with_reducible refine Kd.C_alloc ?_ _) | (with_reducible refine Kd.C_drewN ?_ _) | (with_reducible refine Kd.C_drew ?_))); (case side2 => exact (Kd.R_reads' HO_12.out).2.1); (case side3 => repeat (first | exact (Kd.R_reads' HO_13.out).2.2 | (with_reducible refine Kd.C_alloc ?_ _) | (with_reducible refine Kd.C_drewN ?_ _) | (with_reducible refine Kd.C_drew ?_))); (case side4 => exact (Kd.R_reads' HO_13.out).2.1); rintro e w' ⟨rfl, ⟨nd, rfl⟩⟩; refine ⟨_, rfl, ?_⟩))
                 go_ret
                 exact ⟨by first | rfl | (simp [errW_none, errW_some] <;> rfl) | (simp [*, errW_none, errW_some] <;> rfl), by repeat (first | (with_reducible first | exact HB.out | apply below_alloc | apply pw_below_drewN | apply below_drew1 | refine below_set ?_ GE344.out) | exact HB.out)⟩
     ·rw [if_neg c23] at H
      exact absurd H (by simp)
 ·replace c6 := Bool.eq_false_iff.mpr c6
  subst c6
  have H1 : (none) = some r := by rw [if_neg (show ¬ (false = true) by decide)] at H; exact H
  clear H
  have H := H1
  clear H1
  exact absurd H (by simp)
end Go.Proofs.Ytdinbnbogdadgaa.X
