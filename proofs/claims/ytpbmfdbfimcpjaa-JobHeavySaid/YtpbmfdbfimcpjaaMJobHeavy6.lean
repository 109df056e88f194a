/- Proofs towards the law JobHeavy, joined into one text. No conditions beyond those typed. -/
import Derived.Test.YtpbmfdbfimcpjaaMJobHeavy5
namespace Go.Proofs.Ytpbmfdbfimcpjaa.X
open Go.RowKit Go.Proofs.YtpbmfdbfimcpjaaW.PrintWords Go.Proofs.YtpbmfdbfimcpjaaW.PrintLast Go.Proofs.YtpbmfdbfimcpjaaW.PrintMore
attribute [local go_sem] max2_int min2_int max_two min_two max_three min_three max_four min_four   -- for this text's walks alone
set_option linter.unusedVariables false
set_option linter.unusedSimpArgs false
attribute [local go_sem high] eqA36
mutual
def leatref8_node.j0 : Nat → Bool → List (S38) → Int → List Int → Int → Int → Int → List (S34) → Int → Int → Int → Int → Option (Int)
 | 0, _, _, _, _, _, _, _, _, _, _, _, _ => none
 | k + 1, x15, x310000, x311000, x311001, x311002, x311003, x311004, x311005, x311006, x311007, x311008, x311009 => if x15 = true then (none) else (if x311000 = 1 then (if (x311001.length : Int) = 0 then (leatref8_node.j1 k (x311001.length : Int) x310000 x311000 x311001 x311002 x311003 x311004 x311005 x311006 x311007 x311008 x311009) else (none)) else (if x311000 = 5 then (if (x311001.length : Int) < 1 then (none) else (if (x311001.length : Int) > 4 then (none) else (leatref8_node.j1 k (x311001.length : Int) x310000 x311000 x311001 x311002 x311003 x311004 x311005 x311006 x311007 x311008 x311009))) else (if (x311001.length : Int) = 1 then (leatref8_node.j1 k (x311001.length : Int) x310000 x311000 x311001 x311002 x311003 x311004 x311005 x311006 x311007 x311008 x311009) else (none))))
def leatref8_node.j1 : Nat → Int → List (S38) → Int → List Int → Int → Int → Int → List (S34) → Int → Int → Int → Int → Option (Int)
 | 0, _, _, _, _, _, _, _, _, _, _, _, _ => none
 | k + 1, x5, x310000, x311000, x311001, x311002, x311003, x311004, x311005, x311006, x311007, x311008, x311009 => leatref8_node.l0 k x5 0 x310000 x311000 x311001 x311002 x311003 x311004 x311005 x311006 x311007 x311008 x311009
def leatref8_node.l0 : Nat → Int → Int → List (S38) → Int → List Int → Int → Int → Int → List (S34) → Int → Int → Int → Int → Option (Int)
 | 0, _, _, _, _, _, _, _, _, _, _, _, _, _ => none
 | k + 1, x5, x6, x310000, x311000, x311001, x311002, x311003, x311004, x311005, x311006, x311007, x311008, x311009 => if x6 < x5 then (if 0 ≤ x6 then (if x6 < (x311001.length : Int) then (if (rd x311001 x6) < 0 then (none) else (if (rd x311001 x6) ≥ (x310000.length : Int) then (none) else (if 0 ≤ (rd x311001 x6) then (if (rd x311001 x6) < (x310000.length : Int) then (if ((rd_T38 x310000 (rd x311001 x6)).f0) = 8 then (none) else (leatref8_node.l0 k x5 (wrap64 (x6 + 1)) x310000 x311000 x311001 x311002 x311003 x311004 x311005 x311006 x311007 x311008 x311009)) else (none)) else (none)))) else (none)) else (none)) else (if x311002 < 1 then (leatref8_node.j3 k true x311000 x311001 x311002 x311003 x311004 x311005 x311006 x311007 x311008 x311009) else (leatref8_node.j3 k (decide (x311002 > 4)) x311000 x311001 x311002 x311003 x311004 x311005 x311006 x311007 x311008 x311009))
def leatref8_node.j3 : Nat → Bool → Int → List Int → Int → Int → Int → List (S34) → Int → Int → Int → Int → Option (Int)
 | 0, _, _, _, _, _, _, _, _, _, _, _ => none
 | k + 1, x77, x311000, x311001, x311002, x311003, x311004, x311005, x311006, x311007, x311008, x311009 => if x77 = true then (none) else (if x311000 = 2 then (none) else (if x311000 = 3 then (none) else (if x311000 = 4 then (none) else ((leatref7_Zero.f x311003 x311004 x311005).bind fun t315 => (if t315 = true then (if x311000 = 6 then (leatref8_node.j4 k true x311000 x311001 x311002 x311003 x311004 x311005 x311006 x311007 x311008 x311009) else (leatref8_node.j4 k (x311000 == 7) x311000 x311001 x311002 x311003 x311004 x311005 x311006 x311007 x311008 x311009)) else (none))))))
def leatref8_node.j4 : Nat → Bool → Int → List Int → Int → Int → Int → List (S34) → Int → Int → Int → Int → Option (Int)
 | 0, _, _, _, _, _, _, _, _, _, _, _ => none
 | k + 1, x106, x311000, x311001, x311002, x311003, x311004, x311005, x311006, x311007, x311008, x311009 => if x106 = true then (if x311006 < 1 then (none) else (if x311006 > 5 then (none) else (leatref8_node.j5 k x311000 x311001 x311002 x311003 x311004 x311005 x311006 x311007 x311008 x311009))) else (if x311006 = 0 then (leatref8_node.j5 k x311000 x311001 x311002 x311003 x311004 x311005 x311006 x311007 x311008 x311009) else (none))
def leatref8_node.j5 : Nat → Int → List Int → Int → Int → Int → List (S34) → Int → Int → Int → Int → Option (Int)
 | 0, _, _, _, _, _, _, _, _, _, _ => none
 | k + 1, x311000, x311001, x311002, x311003, x311004, x311005, x311006, x311007, x311008, x311009 => if x311000 = 7 then (if x311007 < 1 then (leatref8_node.j6 k true x311007 x311008 x311009) else (if x311007 > 3 then (leatref8_node.j6 k true x311007 x311008 x311009) else (if x311008 < 1 then (leatref8_node.j6 k true x311007 x311008 x311009) else (leatref8_node.j6 k (decide (x311008 > 68719476736)) x311007 x311008 x311009)))) else (if (!(x311007 == 0) || (!(x311008 == 0) || (!(x311009 == 0)))) = true then (none) else (some 0))
def leatref8_node.j6 : Nat → Bool → Int → Int → Int → Option (Int)
 | 0, _, _, _, _ => none
 | k + 1, x144, x317000, x317001, x317002 => if x144 = true then (none) else (if x317000 = 2 then (if x317002 < 1 then (none) else (if x317002 > 68719476736 then (none) else (some 0))) else (if x317002 = 0 then (some 0) else (none)))
end
def leatref8_node.f (k : Nat) (l0_0 : List (S38)) (a1_0 : Int) (l1_1 : List Int) (a1_2 : Int) (a1_3 : Int) (a1_4 : Int) (l1_5 : List (S34)) (a1_6 : Int) (a1_7 : Int) (a1_8 : Int) (a1_9 : Int) : Option (Int) := if a1_0 < 1 then (leatref8_node.j0 k true l0_0 a1_0 l1_1 a1_2 a1_3 a1_4 l1_5 a1_6 a1_7 a1_8 a1_9) else (leatref8_node.j0 k (decide (a1_0 > 8)) l0_0 a1_0 l1_1 a1_2 a1_3 a1_4 l1_5 a1_6 a1_7 a1_8 a1_9)
theorem leatref8_node.mono_l : ∀ k, (∀ y0 y1 y2 y3 y4 y5 y6 y7 y8 y9 y10 y11, LeO (leatref8_node.j0 k y0 y1 y2 y3 y4 y5 y6 y7 y8 y9 y10 y11) (leatref8_node.j0 (k + 1) y0 y1 y2 y3 y4 y5 y6 y7 y8 y9 y10 y11)) ∧ (∀ y0 y1 y2 y3 y4 y5 y6 y7 y8 y9 y10 y11, LeO (leatref8_node.j1 k y0 y1 y2 y3 y4 y5 y6 y7 y8 y9 y10 y11) (leatref8_node.j1 (k + 1) y0 y1 y2 y3 y4 y5 y6 y7 y8 y9 y10 y11)) ∧ (∀ y0 y1 y2 y3 y4 y5 y6 y7 y8 y9 y10 y11 y12, LeO (leatref8_node.l0 k y0 y1 y2 y3 y4 y5 y6 y7 y8 y9 y10 y11 y12) (leatref8_node.l0 (k + 1) y0 y1 y2 y3 y4 y5 y6 y7 y8 y9 y10 y11 y12)) ∧ (∀ y0 y1 y2 y3 y4 y5 y6 y7 y8 y9 y10, LeO (leatref8_node.j3 k y0 y1 y2 y3 y4 y5 y6 y7 y8 y9 y10) (leatref8_node.j3 (k + 1) y0 y1 y2 y3 y4 y5 y6 y7 y8 y9 y10)) ∧ (∀ y0 y1 y2 y3 y4 y5 y6 y7 y8 y9 y10, LeO (leatref8_node.j4 k y0 y1 y2 y3 y4 y5 y6 y7 y8 y9 y10) (leatref8_node.j4 (k + 1) y0 y1 y2 y3 y4 y5 y6 y7 y8 y9 y10)) ∧ (∀ y0 y1 y2 y3 y4 y5 y6 y7 y8 y9, LeO (leatref8_node.j5 k y0 y1 y2 y3 y4 y5 y6 y7 y8 y9) (leatref8_node.j5 (k + 1) y0 y1 y2 y3 y4 y5 y6 y7 y8 y9)) ∧ (∀ y0 y1 y2 y3, LeO (leatref8_node.j6 k y0 y1 y2 y3) (leatref8_node.j6 (k + 1) y0 y1 y2 y3))
 | 0 => ⟨fun _ _ _ _ _ _ _ _ _ _ _ _ r h => by simp [leatref8_node.j0] at h, fun _ _ _ _ _ _ _ _ _ _ _ _ r h => by simp [leatref8_node.j1] at h, fun _ _ _ _ _ _ _ _ _ _ _ _ _ r h => by simp [leatref8_node.l0] at h, fun _ _ _ _ _ _ _ _ _ _ _ r h => by simp [leatref8_node.j3] at h, fun _ _ _ _ _ _ _ _ _ _ _ r h => by simp [leatref8_node.j4] at h, fun _ _ _ _ _ _ _ _ _ _ r h => by simp [leatref8_node.j5] at h, fun _ _ _ _ r h => by simp [leatref8_node.j6] at h⟩
 | k + 1 => by
  obtain ⟨ih0, ih1, ih2, ih3, ih4, ih5, ih6⟩ := leatref8_node.mono_l k
  refine ⟨?_, ?_, ?_, ?_, ?_, ?_, ?_⟩
  ·intro y0 y1 y2 y3 y4 y5 y6 y7 y8 y9 y10 y11
   unfold leatref8_node.j0
   repeat' first
   | (with_reducible exact ih0 _ _ _ _ _ _ _ _ _ _ _ _)
   | (with_reducible exact ih1 _ _ _ _ _ _ _ _ _ _ _ _)
   | (with_reducible exact ih2 _ _ _ _ _ _ _ _ _ _ _ _ _)
   | (with_reducible exact ih3 _ _ _ _ _ _ _ _ _ _ _)
   | (with_reducible exact ih4 _ _ _ _ _ _ _ _ _ _ _)
   | (with_reducible exact ih5 _ _ _ _ _ _ _ _ _ _)
   | (with_reducible exact ih6 _ _ _ _)
   | (with_reducible exact LeO.refl _)
   | (with_reducible exact LeO.none _)
   | (with_reducible refine LeO.ite ?_ ?_)
   | (with_reducible refine LeO.bind ?_ (fun _ => ?_))
   | exact ih0 _ _ _ _ _ _ _ _ _ _ _ _
   | exact ih1 _ _ _ _ _ _ _ _ _ _ _ _
   | exact ih2 _ _ _ _ _ _ _ _ _ _ _ _ _
   | exact ih3 _ _ _ _ _ _ _ _ _ _ _
   | exact ih4 _ _ _ _ _ _ _ _ _ _ _
   | exact ih5 _ _ _ _ _ _ _ _ _ _
   | exact ih6 _ _ _ _
   | exact LeO.none _
   | refine LeO.ite ?_ ?_
   | refine LeO.bind ?_ (fun _ => ?_)
  ·intro y0 y1 y2 y3 y4 y5 y6 y7 y8 y9 y10 y11
   unfold leatref8_node.j1
   repeat' first
   | (with_reducible exact ih0 _ _ _ _ _ _ _ _ _ _ _ _)
   | (with_reducible exact ih1 _ _ _ _ _ _ _ _ _ _ _ _)
   | (with_reducible exact ih2 _ _ _ _ _ _ _ _ _ _ _ _ _)
   | (with_reducible exact ih3 _ _ _ _ _ _ _ _ _ _ _)
   | (with_reducible exact ih4 _ _ _ _ _ _ _ _ _ _ _)
   | (with_reducible exact ih5 _ _ _ _ _ _ _ _ _ _)
   | (with_reducible exact ih6 _ _ _ _)
   | (with_reducible exact LeO.refl _)
   | (with_reducible exact LeO.none _)
   | (with_reducible refine LeO.ite ?_ ?_)
   | (with_reducible refine LeO.bind ?_ (fun _ => ?_))
   | exact ih0 _ _ _ _ _ _ _ _ _ _ _ _
   | exact ih1 _ _ _ _ _ _ _ _ _ _ _ _
   | exact ih2 _ _ _ _ _ _ _ _ _ _ _ _ _
   | exact ih3 _ _ _ _ _ _ _ _ _ _ _
   | exact ih4 _ _ _ _ _ _ _ _ _ _ _
   | exact ih5 _ _ _ _ _ _ _ _ _ _
   | exact ih6 _ _ _ _
   | exact LeO.none _
   | refine LeO.ite ?_ ?_
   | refine LeO.bind ?_ (fun _ => ?_)
  ·intro y0 y1 y2 y3 y4 y5 y6 y7 y8 y9 y10 y11 y12
   unfold leatref8_node.l0
   repeat' first
   | (with_reducible exact ih0 _ _ _ _ _ _ _ _ _ _ _ _)
   | (with_reducible exact ih1 _ _ _ _ _ _ _ _ _ _ _ _)
   | (with_reducible exact ih2 _ _ _ _ _ _ _ _ _ _ _ _ _)
   | (with_reducible exact ih3 _ _ _ _ _ _ _ _ _ _ _)
   | (with_reducible exact ih4 _ _ _ _ _ _ _ _ _ _ _)
   | (with_reducible exact ih5 _ _ _ _ _ _ _ _ _ _)
   | (with_reducible exact ih6 _ _ _ _)
   | (with_reducible exact LeO.refl _)
   | (with_reducible exact LeO.none _)
   | (with_reducible refine LeO.ite ?_ ?_)
   | (with_reducible refine LeO.bind ?_ (fun _ => ?_))
   | exact ih0 _ _ _ _ _ _ _ _ _ _ _ _
   | exact ih1 _ _ _ _ _ _ _ _ _ _ _ _
   | exact ih2 _ _ _ _ _ _ _ _ _ _ _ _ _
   | exact ih3 _ _ _ _ _ _ _ _ _ _ _
   | exact ih4 _ _ _ _ _ _ _ _ _ _ _
   | exact ih5 _ _ _ _ _ _ _ _ _ _
   | exact ih6 _ _ _ _
   | exact LeO.none _
   | refine LeO.ite ?_ ?_
   | refine LeO.bind ?_ (fun _ => ?_)
  ·intro y0 y1 y2 y3 y4 y5 y6 y7 y8 y9 y10
   unfold leatref8_node.j3
   repeat' first
   | (with_reducible exact ih0 _ _ _ _ _ _ _ _ _ _ _ _)
   | (with_reducible exact ih1 _ _ _ _ _ _ _ _ _ _ _ _)
   | (with_reducible exact ih2 _ _ _ _ _ _ _ _ _ _ _ _ _)
   | (with_reducible exact ih3 _ _ _ _ _ _ _ _ _ _ _)
   | (with_reducible exact ih4 _ _ _ _ _ _ _ _ _ _ _)
   | (with_reducible exact ih5 _ _ _ _ _ _ _ _ _ _)
   | (with_reducible exact ih6 _ _ _ _)
   | (with_reducible exact LeO.refl _)
   | (with_reducible exact LeO.none _)
   | (with_reducible refine LeO.ite ?_ ?_)
   | (with_reducible refine LeO.bind ?_ (fun _ => ?_))
   | exact ih0 _ _ _ _ _ _ _ _ _ _ _ _
   | exact ih1 _ _ _ _ _ _ _ _ _ _ _ _
   | exact ih2 _ _ _ _ _ _ _ _ _ _ _ _ _
   | exact ih3 _ _ _ _ _ _ _ _ _ _ _
   | exact ih4 _ _ _ _ _ _ _ _ _ _ _
   | exact ih5 _ _ _ _ _ _ _ _ _ _
   | exact ih6 _ _ _ _
   | exact LeO.none _
   | refine LeO.ite ?_ ?_
   | refine LeO.bind ?_ (fun _ => ?_)
  ·intro y0 y1 y2 y3 y4 y5 y6 y7 y8 y9 y10
   unfold leatref8_node.j4
   repeat' first
   | (with_reducible exact ih0 _ _ _ _ _ _ _ _ _ _ _ _)
   | (with_reducible exact ih1 _ _ _ _ _ _ _ _ _ _ _ _)
   | (with_reducible exact ih2 _ _ _ _ _ _ _ _ _ _ _ _ _)
   | (with_reducible exact ih3 _ _ _ _ _ _ _ _ _ _ _)
   | (with_reducible exact ih4 _ _ _ _ _ _ _ _ _ _ _)
   | (with_reducible exact ih5 _ _ _ _ _ _ _ _ _ _)
   | (with_reducible exact ih6 _ _ _ _)
   | (with_reducible exact LeO.refl _)
   | (with_reducible exact LeO.none _)
   | (with_reducible refine LeO.ite ?_ ?_)
   | (with_reducible refine LeO.bind ?_ (fun _ => ?_))
   | exact ih0 _ _ _ _ _ _ _ _ _ _ _ _
   | exact ih1 _ _ _ _ _ _ _ _ _ _ _ _
   | exact ih2 _ _ _ _ _ _ _ _ _ _ _ _ _
   | exact ih3 _ _ _ _ _ _ _ _ _ _ _
   | exact ih4 _ _ _ _ _ _ _ _ _ _ _
   | exact ih5 _ _ _ _ _ _ _ _ _ _
   | exact ih6 _ _ _ _
   | exact LeO.none _
   | refine LeO.ite ?_ ?_
   | refine LeO.bind ?_ (fun _ => ?_)
  ·intro y0 y1 y2 y3 y4 y5 y6 y7 y8 y9
   unfold leatref8_node.j5
   repeat' first
   | (with_reducible exact ih0 _ _ _ _ _ _ _ _ _ _ _ _)
   | (with_reducible exact ih1 _ _ _ _ _ _ _ _ _ _ _ _)
   | (with_reducible exact ih2 _ _ _ _ _ _ _ _ _ _ _ _ _)
   | (with_reducible exact ih3 _ _ _ _ _ _ _ _ _ _ _)
   | (with_reducible exact ih4 _ _ _ _ _ _ _ _ _ _ _)
   | (with_reducible exact ih5 _ _ _ _ _ _ _ _ _ _)
   | (with_reducible exact ih6 _ _ _ _)
   | (with_reducible exact LeO.refl _)
   | (with_reducible exact LeO.none _)
   | (with_reducible refine LeO.ite ?_ ?_)
   | (with_reducible refine LeO.bind ?_ (fun _ => ?_))
   | exact ih0 _ _ _ _ _ _ _ _ _ _ _ _
   | exact ih1 _ _ _ _ _ _ _ _ _ _ _ _
   | exact ih2 _ _ _ _ _ _ _ _ _ _ _ _ _
   | exact ih3 _ _ _ _ _ _ _ _ _ _ _
   | exact ih4 _ _ _ _ _ _ _ _ _ _ _
   | exact ih5 _ _ _ _ _ _ _ _ _ _
   | exact ih6 _ _ _ _
   | exact LeO.none _
   | refine LeO.ite ?_ ?_
   | refine LeO.bind ?_ (fun _ => ?_)
  ·intro y0 y1 y2 y3
   unfold leatref8_node.j6
   repeat' first
   | (with_reducible exact ih0 _ _ _ _ _ _ _ _ _ _ _ _)
   | (with_reducible exact ih1 _ _ _ _ _ _ _ _ _ _ _ _)
   | (with_reducible exact ih2 _ _ _ _ _ _ _ _ _ _ _ _ _)
   | (with_reducible exact ih3 _ _ _ _ _ _ _ _ _ _ _)
   | (with_reducible exact ih4 _ _ _ _ _ _ _ _ _ _ _)
   | (with_reducible exact ih5 _ _ _ _ _ _ _ _ _ _)
   | (with_reducible exact ih6 _ _ _ _)
   | (with_reducible exact LeO.refl _)
   | (with_reducible exact LeO.none _)
   | (with_reducible refine LeO.ite ?_ ?_)
   | (with_reducible refine LeO.bind ?_ (fun _ => ?_))
   | exact ih0 _ _ _ _ _ _ _ _ _ _ _ _
   | exact ih1 _ _ _ _ _ _ _ _ _ _ _ _
   | exact ih2 _ _ _ _ _ _ _ _ _ _ _ _ _
   | exact ih3 _ _ _ _ _ _ _ _ _ _ _
   | exact ih4 _ _ _ _ _ _ _ _ _ _ _
   | exact ih5 _ _ _ _ _ _ _ _ _ _
   | exact ih6 _ _ _ _
   | exact LeO.none _
   | refine LeO.ite ?_ ?_
   | refine LeO.bind ?_ (fun _ => ?_)
theorem leatref8_node.mono : ∀ a0 a1 a2 a3 a4 a5 a6 a7 a8 a9 a10 k, LeO (leatref8_node.f k a0 a1 a2 a3 a4 a5 a6 a7 a8 a9 a10) (leatref8_node.f (k + 1) a0 a1 a2 a3 a4 a5 a6 a7 a8 a9 a10) := by
 intro a0 a1 a2 a3 a4 a5 a6 a7 a8 a9 a10 k
 obtain ⟨ih0, ih1, ih2, ih3, ih4, ih5, ih6⟩ := leatref8_node.mono_l k
 unfold leatref8_node.f
 repeat' first
   | (with_reducible exact ih0 _ _ _ _ _ _ _ _ _ _ _ _)
   | (with_reducible exact ih1 _ _ _ _ _ _ _ _ _ _ _ _)
   | (with_reducible exact ih2 _ _ _ _ _ _ _ _ _ _ _ _ _)
   | (with_reducible exact ih3 _ _ _ _ _ _ _ _ _ _ _)
   | (with_reducible exact ih4 _ _ _ _ _ _ _ _ _ _ _)
   | (with_reducible exact ih5 _ _ _ _ _ _ _ _ _ _)
   | (with_reducible exact ih6 _ _ _ _)
   | (with_reducible exact LeO.refl _)
   | (with_reducible exact LeO.none _)
   | (with_reducible refine LeO.ite ?_ ?_)
   | (with_reducible refine LeO.bind ?_ (fun _ => ?_))
   | exact ih0 _ _ _ _ _ _ _ _ _ _ _ _
   | exact ih1 _ _ _ _ _ _ _ _ _ _ _ _
   | exact ih2 _ _ _ _ _ _ _ _ _ _ _ _ _
   | exact ih3 _ _ _ _ _ _ _ _ _ _ _
   | exact ih4 _ _ _ _ _ _ _ _ _ _ _
   | exact ih5 _ _ _ _ _ _ _ _ _ _
   | exact ih6 _ _ _ _
   | exact LeO.none _
   | refine LeO.ite ?_ ?_
   | refine LeO.bind ?_ (fun _ => ?_)
set_option maxHeartbeats 8000000 in
set_option maxRecDepth 100000 in
theorem leatref8_node.calls (k : Nat) (A0_0 : Option Addr) (c0_0 : Nat) (l0_0 : List (S38)) (a1_0 : Int) (A1_1 : Option Addr) (c1_1 : Nat) (l1_1 : List Int) (a1_2 : Int) (a1_3 : Int) (a1_4 : Int) (A1_5 : Option Addr) (c1_5 : Nat) (l1_5 : List (S34)) (a1_6 : Int) (a1_7 : Int) (a1_8 : Int) (a1_9 : Int) (r : Int) (w : World) (hr0_0 : Kd.C k38 w A0_0 l0_0.length l0_0) (hc0_0 : l0_0.length ≤ c0_0) (hr1_1 : Kd.C (Kd.int .i64) w A1_1 l1_1.length l1_1) (hc1_1 : l1_1.length ≤ c1_1) (hr1_5 : Kd.C k34 w A1_5 l1_5.length l1_5) (hc1_5 : l1_5.length ≤ c1_5) (h : leatref8_node.f k l0_0 a1_0 l1_1 a1_2 a1_3 a1_4 l1_5 a1_6 a1_7 a1_8 a1_9 = some r) :
  Calls Try.prog 34 #[.agg #[.slice A0_0 l0_0.length c0_0], .agg #[.int .i64 a1_0, .slice A1_1 l1_1.length c1_1, .int .i64 a1_2, .int .i64 a1_3, .int .i64 a1_4, .slice A1_5 l1_5.length c1_5, .int .i64 a1_6, .int .i64 a1_7, .int .i64 a1_8, .int .i64 a1_9]] w fun e w' => e = .returned (.int .i64 r) ∧ Below w.heap.size w w' := by
 have hu24 := Try.underlying24
 have hu38 := Try.underlying38
 have hu34 := Try.underlying34
 have hu36 := Try.underlying36
 have HR0_0 := Aside0.mk hr0_0
 have HC0_0 := Aside0.mk hc0_0
 clear hr0_0 hc0_0
 have HR1_1 := Aside0.mk hr1_1
 have HC1_1 := Aside0.mk hc1_1
 clear hr1_1 hc1_1
 have HR1_5 := Aside0.mk hr1_5
 have HC1_5 := Aside0.mk hc1_5
 clear hr1_5 hc1_5
 have HB := Aside0.mk (Below.refl w.heap.size w)
 have H : (if a1_0 < 1 then (leatref8_node.j0 k true l0_0 a1_0 l1_1 a1_2 a1_3 a1_4 l1_5 a1_6 a1_7 a1_8 a1_9) else (leatref8_node.j0 k (decide (a1_0 > 8)) l0_0 a1_0 l1_1 a1_2 a1_3 a1_4 l1_5 a1_6 a1_7 a1_8 a1_9)) = some r := h
 clear h
 have HC3 := Aside0.mk H
 clear H
 go_enter Try.func34, Try.ntmps34
 go_upto_region 1 with (first | ((with_reducible refine gate_dst (N := 2) rfl ?_); (try (refine gate_guard (by rfl) ?_; dsimp only)); refine box_event ?hg (N := 2) ?hd (cs := #[.slice A0_0 l0_0.length c0_0]) (t := 24) ?hr ?_; (case hd => rfl); (case hg => rfl); (case hr => first | (go_simp; done) | (go_simp; rfl)); intro gb309 hg w4 hbox hb; have n0_ := Aside0.mk (below_step (by repeat (first | (with_reducible first | exact HB.out | apply below_alloc | apply pw_below_drewN | apply below_drew1) | exact HB.out)) hb); have n1_ := Aside0.mk (hbox); have n2_ := Aside0.mk ((by rw [hg]; exact (below_size (by repeat (first | (with_reducible first | exact HB.out | apply below_alloc | apply pw_below_drewN | apply below_drew1) | exact HB.out))) : w.heap.size ≤ gb309)); have n3_ := Aside0.mk ((by rw [hg]; exact (below_size (by repeat (first | (with_reducible first | exact HB.out | apply below_alloc | apply pw_below_drewN | apply below_drew1) | exact HB.out))) : w.heap.size ≤ gb309)); clear HB; have HB := n0_; have BK309 := n1_; have GW309 := n2_; have GE309 := n3_; clear n0_ n1_ n2_ n3_; clear hb hbox hg) | ((with_reducible refine gate_dst (N := 3) rfl ?_); (try (refine gate_guard (by rfl) ?_; dsimp only)); refine box_event ?hg (N := 3) ?hd (cs := #[.int .i64 a1_0, .slice A1_1 l1_1.length c1_1, .int .i64 a1_2, .int .i64 a1_3, .int .i64 a1_4, .slice A1_5 l1_5.length c1_5, .int .i64 a1_6, .int .i64 a1_7, .int .i64 a1_8, .int .i64 a1_9]) (t := 38) ?hr ?_; (case hd => rfl); (case hg => rfl); (case hr => first | (go_simp; done) | (go_simp; rfl)); intro gb310 hg w5 hbox hb; have n0_ := Aside0.mk (blk_below (g := gb309) (o := .cells #[.slice A0_0 l0_0.length c0_0] 24 (0, 0)) (by (with_reducible repeat (first | refine blk_drewN ?_ _ | refine blk_drew ?_ | refine blk_alloc ?_ _)); exact BK309.out) hb); have n1_ := Aside0.mk (below_step (by repeat (first | (with_reducible first | exact HB.out | apply below_alloc | apply pw_below_drewN | apply below_drew1 | refine below_set ?_ GE309.out) | exact HB.out)) hb); have n2_ := Aside0.mk (hbox); have n3_ := Aside0.mk ((by rw [hg]; exact (below_size (by repeat (first | (with_reducible first | exact HB.out | apply below_alloc | apply pw_below_drewN | apply below_drew1 | refine below_set ?_ GE309.out) | exact HB.out))) : w.heap.size ≤ gb310)); have n4_ := Aside0.mk ((by rw [hg]; exact (below_size (by repeat (first | (with_reducible first | exact HB.out | apply below_alloc | apply pw_below_drewN | apply below_drew1 | refine below_set ?_ GE309.out) | exact HB.out))) : w.heap.size ≤ gb310)); have n5_ := Aside0.mk ((by rw [hg]; exact Nat.ne_of_lt (blk_lt (g := gb309) (o := .cells #[.slice A0_0 l0_0.length c0_0] 24 (0, 0)) (by (with_reducible repeat (first | refine blk_drewN ?_ _ | refine blk_drew ?_ | refine blk_alloc ?_ _)); exact BK309.out)) : gb309 ≠ gb310)); have n6_ := Aside0.mk ((by rw [hg]; exact Nat.ne_of_gt (blk_lt (g := gb309) (o := .cells #[.slice A0_0 l0_0.length c0_0] 24 (0, 0)) (by (with_reducible repeat (first | refine blk_drewN ?_ _ | refine blk_drew ?_ | refine blk_alloc ?_ _)); exact BK309.out)) : gb310 ≠ gb309)); clear BK309; clear HB; have BK309 := n0_; have HB := n1_; have BK310 := n2_; have GW310 := n3_; have GE310 := n4_; have NB309_310 := n5_; have NB310_309 := n6_; clear n0_ n1_ n2_ n3_ n4_ n5_ n6_; clear hb hbox hg))
 repeat (go_quiet (first | ((with_reducible refine gate_dst (N := 2) rfl ?_); (try (refine gate_guard (by rfl) ?_; dsimp only)); refine box_event ?hg (N := 2) ?hd (cs := #[.slice A0_0 l0_0.length c0_0]) (t := 24) ?hr ?_; (case hd => rfl); (case hg => rfl); (case hr => first | (go_simp; done) | (go_simp; rfl)); intro gb309 hg w4 hbox hb; have n0_ := Aside0.mk (below_step (by repeat (first | (with_reducible first | exact HB.out | apply below_alloc | apply pw_below_drewN | apply below_drew1) | exact HB.out)) hb); have n1_ := Aside0.mk (hbox); have n2_ := Aside0.mk ((by rw [hg]; exact (below_size (by repeat (first | (with_reducible first | exact HB.out | apply below_alloc | apply pw_below_drewN | apply below_drew1) | exact HB.out))) : w.heap.size ≤ gb309)); have n3_ := Aside0.mk ((by rw [hg]; exact (below_size (by repeat (first | (with_reducible first | exact HB.out | apply below_alloc | apply pw_below_drewN | apply below_drew1) | exact HB.out))) : w.heap.size ≤ gb309)); clear HB; have HB := n0_; have BK309 := n1_; have GW309 := n2_; have GE309 := n3_; clear n0_ n1_ n2_ n3_; clear hb hbox hg) | ((with_reducible refine gate_dst (N := 3) rfl ?_); (try (refine gate_guard (by rfl) ?_; dsimp only)); refine box_event ?hg (N := 3) ?hd (cs := #[.int .i64 a1_0, .slice A1_1 l1_1.length c1_1, .int .i64 a1_2, .int .i64 a1_3, .int .i64 a1_4, .slice A1_5 l1_5.length c1_5, .int .i64 a1_6, .int .i64 a1_7, .int .i64 a1_8, .int .i64 a1_9]) (t := 38) ?hr ?_; (case hd => rfl); (case hg => rfl); (case hr => first | (go_simp; done) | (go_simp; rfl)); intro gb310 hg w5 hbox hb; have n0_ := Aside0.mk (blk_below (g := gb309) (o := .cells #[.slice A0_0 l0_0.length c0_0] 24 (0, 0)) (by (with_reducible repeat (first | refine blk_drewN ?_ _ | refine blk_drew ?_ | refine blk_alloc ?_ _)); exact BK309.out) hb); have n1_ := Aside0.mk (below_step (by repeat (first | (with_reducible first | exact HB.out | apply below_alloc | apply pw_below_drewN | apply below_drew1 | refine below_set ?_ GE309.out) | exact HB.out)) hb); have n2_ := Aside0.mk (hbox); have n3_ := Aside0.mk ((by rw [hg]; exact (below_size (by repeat (first | (with_reducible first | exact HB.out | apply below_alloc | apply pw_below_drewN | apply below_drew1 | refine below_set ?_ GE309.out) | exact HB.out))) : w.heap.size ≤ gb310)); have n4_ := Aside0.mk ((by rw [hg]; exact (below_size (by repeat (first | (with_reducible first | exact HB.out | apply below_alloc | apply pw_below_drewN | apply below_drew1 | refine below_set ?_ GE309.out) | exact HB.out))) : w.heap.size ≤ gb310)); have n5_ := Aside0.mk ((by rw [hg]; exact Nat.ne_of_lt (blk_lt (g := gb309) (o := .cells #[.slice A0_0 l0_0.length c0_0] 24 (0, 0)) (by (with_reducible repeat (first | refine blk_drewN ?_ _ | refine blk_drew ?_ | refine blk_alloc ?_ _)); exact BK309.out)) : gb309 ≠ gb310)); have n6_ := Aside0.mk ((by rw [hg]; exact Nat.ne_of_gt (blk_lt (g := gb309) (o := .cells #[.slice A0_0 l0_0.length c0_0] 24 (0, 0)) (by (with_reducible repeat (first | refine blk_drewN ?_ _ | refine blk_drew ?_ | refine blk_alloc ?_ _)); exact BK309.out)) : gb310 ≠ gb309)); clear BK309; clear HB; have BK309 := n0_; have HB := n1_; have BK310 := n2_; have GW310 := n3_; have GE310 := n4_; have NB309_310 := n5_; have NB310_309 := n6_; clear n0_ n1_ n2_ n3_ n4_ n5_ n6_; clear hb hbox hg)); go_upto_region 1 with (first | ((with_reducible refine gate_dst (N := 2) rfl ?_); (try (refine gate_guard (by rfl) ?_; dsimp only)); refine box_event ?hg (N := 2) ?hd (cs := #[.slice A0_0 l0_0.length c0_0]) (t := 24) ?hr ?_; (case hd => rfl); (case hg => rfl); (case hr => first | (go_simp; done) | (go_simp; rfl)); intro gb309 hg w4 hbox hb; have n0_ := Aside0.mk (below_step (by repeat (first | (with_reducible first | exact HB.out | apply below_alloc | apply pw_below_drewN | apply below_drew1) | exact HB.out)) hb); have n1_ := Aside0.mk (hbox); have n2_ := Aside0.mk ((by rw [hg]; exact (below_size (by repeat (first | (with_reducible first | exact HB.out | apply below_alloc | apply pw_below_drewN | apply below_drew1) | exact HB.out))) : w.heap.size ≤ gb309)); have n3_ := Aside0.mk ((by rw [hg]; exact (below_size (by repeat (first | (with_reducible first | exact HB.out | apply below_alloc | apply pw_below_drewN | apply below_drew1) | exact HB.out))) : w.heap.size ≤ gb309)); clear HB; have HB := n0_; have BK309 := n1_; have GW309 := n2_; have GE309 := n3_; clear n0_ n1_ n2_ n3_; clear hb hbox hg) | ((with_reducible refine gate_dst (N := 3) rfl ?_); (try (refine gate_guard (by rfl) ?_; dsimp only)); refine box_event ?hg (N := 3) ?hd (cs := #[.int .i64 a1_0, .slice A1_1 l1_1.length c1_1, .int .i64 a1_2, .int .i64 a1_3, .int .i64 a1_4, .slice A1_5 l1_5.length c1_5, .int .i64 a1_6, .int .i64 a1_7, .int .i64 a1_8, .int .i64 a1_9]) (t := 38) ?hr ?_; (case hd => rfl); (case hg => rfl); (case hr => first | (go_simp; done) | (go_simp; rfl)); intro gb310 hg w5 hbox hb; have n0_ := Aside0.mk (blk_below (g := gb309) (o := .cells #[.slice A0_0 l0_0.length c0_0] 24 (0, 0)) (by (with_reducible repeat (first | refine blk_drewN ?_ _ | refine blk_drew ?_ | refine blk_alloc ?_ _)); exact BK309.out) hb); have n1_ := Aside0.mk (below_step (by repeat (first | (with_reducible first | exact HB.out | apply below_alloc | apply pw_below_drewN | apply below_drew1 | refine below_set ?_ GE309.out) | exact HB.out)) hb); have n2_ := Aside0.mk (hbox); have n3_ := Aside0.mk ((by rw [hg]; exact (below_size (by repeat (first | (with_reducible first | exact HB.out | apply below_alloc | apply pw_below_drewN | apply below_drew1 | refine below_set ?_ GE309.out) | exact HB.out))) : w.heap.size ≤ gb310)); have n4_ := Aside0.mk ((by rw [hg]; exact (below_size (by repeat (first | (with_reducible first | exact HB.out | apply below_alloc | apply pw_below_drewN | apply below_drew1 | refine below_set ?_ GE309.out) | exact HB.out))) : w.heap.size ≤ gb310)); have n5_ := Aside0.mk ((by rw [hg]; exact Nat.ne_of_lt (blk_lt (g := gb309) (o := .cells #[.slice A0_0 l0_0.length c0_0] 24 (0, 0)) (by (with_reducible repeat (first | refine blk_drewN ?_ _ | refine blk_drew ?_ | refine blk_alloc ?_ _)); exact BK309.out)) : gb309 ≠ gb310)); have n6_ := Aside0.mk ((by rw [hg]; exact Nat.ne_of_gt (blk_lt (g := gb309) (o := .cells #[.slice A0_0 l0_0.length c0_0] 24 (0, 0)) (by (with_reducible repeat (first | refine blk_drewN ?_ _ | refine blk_drew ?_ | refine blk_alloc ?_ _)); exact BK309.out)) : gb310 ≠ gb309)); clear BK309; clear HB; have BK309 := n0_; have HB := n1_; have BK310 := n2_; have GW310 := n3_; have GE310 := n4_; have NB309_310 := n5_; have NB310_309 := n6_; clear n0_ n1_ n2_ n3_ n4_ n5_ n6_; clear hb hbox hg)))
 (try simp only [Act.put, List.setIfInBounds_toArray, List.set_cons_zero, List.set_cons_succ])
 go_cut [15] (fun v15 wc => ∃ (kq : Nat) (x15_2 : Bool), v15 = .bool x15_2 ∧ Aside0 (leatref8_node.j0 kq x15_2 l0_0 a1_0 l1_1 a1_2 a1_3 a1_4 l1_5 a1_6 a1_7 a1_8 a1_9 = some r) ∧ Aside0 (kq ≤ k) ∧ Aside0 (wc.heap[gb309]? = some (.cells #[(.slice A0_0 l0_0.length c0_0)] 24 (0, 0))) ∧ Aside0 (wc.heap[gb310]? = some (.cells #[.int .i64 a1_0, (.slice A1_1 l1_1.length c1_1), .int .i64 a1_2, .int .i64 a1_3, .int .i64 a1_4, (.slice A1_5 l1_5.length c1_5), .int .i64 a1_6, .int .i64 a1_7, .int .i64 a1_8, .int .i64 a1_9] 38 (0, 0))) ∧ Aside0 (Below w.heap.size w wc))
 case first =>
  have H := HC3.out
  clear HC3
  by_cases c6 : a1_0 < 1
  ·rw [if_pos c6] at H
   have c6b0 : decide (a1_0 < 1) = true := decide_eq_true c6
   clear c6
   (first | rw [c6b0] | (simp only [i64_w, i32_w]; rw [c6b0]) | skip)
   as_aux_lemma =>
    have H' := Aside0.mk H
    clear H
    have hnb7 := NB310_309.out
    have hnc7 := NB309_310.out
    have hcz8_0 : w5.cell? ⟨gb310, 0, none⟩ = some (.int .i64 a1_0) := (blk_cell BK310.out 0).trans rfl
    have hcz8_1 : w5.cell? ⟨gb310, 1, none⟩ = some (.slice A1_1 l1_1.length c1_1) := (blk_cell BK310.out 1).trans rfl
    have hcz8_2 : w5.cell? ⟨gb310, 2, none⟩ = some (.int .i64 a1_2) := (blk_cell BK310.out 2).trans rfl
    have hcz8_3 : w5.cell? ⟨gb310, 3, none⟩ = some (.int .i64 a1_3) := (blk_cell BK310.out 3).trans rfl
    have hcz8_4 : w5.cell? ⟨gb310, 4, none⟩ = some (.int .i64 a1_4) := (blk_cell BK310.out 4).trans rfl
    have hcz8_5 : w5.cell? ⟨gb310, 5, none⟩ = some (.slice A1_5 l1_5.length c1_5) := (blk_cell BK310.out 5).trans rfl
    have hcz8_6 : w5.cell? ⟨gb310, 6, none⟩ = some (.int .i64 a1_6) := (blk_cell BK310.out 6).trans rfl
    have hcz8_7 : w5.cell? ⟨gb310, 7, none⟩ = some (.int .i64 a1_7) := (blk_cell BK310.out 7).trans rfl
    have hcz8_8 : w5.cell? ⟨gb310, 8, none⟩ = some (.int .i64 a1_8) := (blk_cell BK310.out 8).trans rfl
    have hcz8_9 : w5.cell? ⟨gb310, 9, none⟩ = some (.int .i64 a1_9) := (blk_cell BK310.out 9).trans rfl
    have hfz8_0 := blk_frozen BK310.out 0
    have hfz8_1 := blk_frozen BK310.out 1
    have hfz8_2 := blk_frozen BK310.out 2
    have hfz8_3 := blk_frozen BK310.out 3
    have hfz8_4 := blk_frozen BK310.out 4
    have hfz8_5 := blk_frozen BK310.out 5
    have hfz8_6 := blk_frozen BK310.out 6
    have hfz8_7 := blk_frozen BK310.out 7
    have hfz8_8 := blk_frozen BK310.out 8
    have hfz8_9 := blk_frozen BK310.out 9
    go_wp2
    repeat (go_quiet (fail); try go_wp2)
    go_meet
    case rel => exact ⟨_, (true), (by first | rfl | (simp; done) | (simp [*]; done)), H', ⟨by first | omega | exact Nat.le_refl _⟩, ⟨by (with_reducible repeat (first | refine blk_drewN ?_ _ | refine blk_drew ?_ | refine blk_alloc ?_ _)); exact BK309.out⟩, ⟨by (with_reducible repeat (first | refine blk_drewN ?_ _ | refine blk_drew ?_ | refine blk_alloc ?_ _)); exact BK310.out⟩, ⟨by repeat (first | (with_reducible first | exact HB.out | apply below_alloc | apply pw_below_drewN | apply below_drew1 | refine below_set ?_ GE309.out | refine below_set ?_ GE310.out) | exact HB.out)⟩⟩
  ·rw [if_neg c6] at H
   have c6b0 : decide (a1_0 < 1) = false := decide_eq_false c6
   clear c6
   (first | rw [c6b0] | (simp only [i64_w, i32_w]; rw [c6b0]) | skip)
   as_aux_lemma =>
    have H' := Aside0.mk H
    clear H
    have hnb9 := NB310_309.out
    have hnc9 := NB309_310.out
    have hcz10_0 : w5.cell? ⟨gb310, 0, none⟩ = some (.int .i64 a1_0) := (blk_cell BK310.out 0).trans rfl
    have hcz10_1 : w5.cell? ⟨gb310, 1, none⟩ = some (.slice A1_1 l1_1.length c1_1) := (blk_cell BK310.out 1).trans rfl
    have hcz10_2 : w5.cell? ⟨gb310, 2, none⟩ = some (.int .i64 a1_2) := (blk_cell BK310.out 2).trans rfl
    have hcz10_3 : w5.cell? ⟨gb310, 3, none⟩ = some (.int .i64 a1_3) := (blk_cell BK310.out 3).trans rfl
    have hcz10_4 : w5.cell? ⟨gb310, 4, none⟩ = some (.int .i64 a1_4) := (blk_cell BK310.out 4).trans rfl
    have hcz10_5 : w5.cell? ⟨gb310, 5, none⟩ = some (.slice A1_5 l1_5.length c1_5) := (blk_cell BK310.out 5).trans rfl
    have hcz10_6 : w5.cell? ⟨gb310, 6, none⟩ = some (.int .i64 a1_6) := (blk_cell BK310.out 6).trans rfl
    have hcz10_7 : w5.cell? ⟨gb310, 7, none⟩ = some (.int .i64 a1_7) := (blk_cell BK310.out 7).trans rfl
    have hcz10_8 : w5.cell? ⟨gb310, 8, none⟩ = some (.int .i64 a1_8) := (blk_cell BK310.out 8).trans rfl
    have hcz10_9 : w5.cell? ⟨gb310, 9, none⟩ = some (.int .i64 a1_9) := (blk_cell BK310.out 9).trans rfl
    have hfz10_0 := blk_frozen BK310.out 0
    have hfz10_1 := blk_frozen BK310.out 1
    have hfz10_2 := blk_frozen BK310.out 2
    have hfz10_3 := blk_frozen BK310.out 3
    have hfz10_4 := blk_frozen BK310.out 4
    have hfz10_5 := blk_frozen BK310.out 5
    have hfz10_6 := blk_frozen BK310.out 6
    have hfz10_7 := blk_frozen BK310.out 7
    have hfz10_8 := blk_frozen BK310.out 8
    have hfz10_9 := blk_frozen BK310.out 9
    go_wp2
    repeat (go_quiet (fail); try go_wp2)
    go_meet
    case rel => exact ⟨_, (decide (a1_0 > 8)), (by first | rfl | (simp; done) | (simp [*]; done)), H', ⟨by first | omega | exact Nat.le_refl _⟩, ⟨by (with_reducible repeat (first | refine blk_drewN ?_ _ | refine blk_drew ?_ | refine blk_alloc ?_ _)); exact BK309.out⟩, ⟨by (with_reducible repeat (first | refine blk_drewN ?_ _ | refine blk_drew ?_ | refine blk_alloc ?_ _)); exact BK310.out⟩, ⟨by repeat (first | (with_reducible first | exact HB.out | apply below_alloc | apply pw_below_drewN | apply below_drew1 | refine below_set ?_ GE309.out | refine below_set ?_ GE310.out) | exact HB.out)⟩⟩
 case rest =>
  clear HC3
  try clear c1; try clear p2; try clear c3; try clear c6; try clear c6b0; try clear c7; try clear c9; try clear hcz10_0; try clear hcz10_1; try clear hcz10_2; try clear hcz10_3; try clear hcz10_4; try clear hcz10_5; try clear hcz10_6; try clear hcz10_7; try clear hcz10_8; try clear hcz10_9; try clear hcz8_0; try clear hcz8_1; try clear hcz8_2; try clear hcz8_3; try clear hcz8_4; try clear hcz8_5; try clear hcz8_6; try clear hcz8_7; try clear hcz8_8; try clear hcz8_9; try clear hfz10_0; try clear hfz10_1; try clear hfz10_2; try clear hfz10_3; try clear hfz10_4; try clear hfz10_5; try clear hfz10_6; try clear hfz10_7; try clear hfz10_8; try clear hfz10_9; try clear hfz8_0; try clear hfz8_1; try clear hfz8_2; try clear hfz8_3; try clear hfz8_4; try clear hfz8_5; try clear hfz8_6; try clear hfz8_7; try clear hfz8_8; try clear hfz8_9
  obtain ⟨kq, x15_2, rfl, HA, HJ2, BK309, BK310, HB⟩ := hcut
  cases kq with
  | zero => exact absurd HA.out (by simp [leatref8_node.j0])
  | succ kj2 =>
   have H := HA.out
   clear HA
   simp only [leatref8_node.j0] at H
   by_cases c11 : x15_2 = true
   ·subst c11
    have H1 : (none) = some r := by rw [if_pos rfl] at H; exact H
    clear H
    have H := H1
    clear H1
    exact absurd H (by simp)
   ·replace c11 := Bool.eq_false_iff.mpr c11
    subst c11
    have H1 : (if a1_0 = 1 then (if (l1_1.length : Int) = 0 then (leatref8_node.j1 kj2 (l1_1.length : Int) l0_0 a1_0 l1_1 a1_2 a1_3 a1_4 l1_5 a1_6 a1_7 a1_8 a1_9) else (none)) else (if a1_0 = 5 then (if (l1_1.length : Int) < 1 then (none) else (if (l1_1.length : Int) > 4 then (none) else (leatref8_node.j1 kj2 (l1_1.length : Int) l0_0 a1_0 l1_1 a1_2 a1_3 a1_4 l1_5 a1_6 a1_7 a1_8 a1_9))) else (if (l1_1.length : Int) = 1 then (leatref8_node.j1 kj2 (l1_1.length : Int) l0_0 a1_0 l1_1 a1_2 a1_3 a1_4 l1_5 a1_6 a1_7 a1_8 a1_9) else (none)))) = some r := by rw [if_neg (show ¬ (false = true) by decide)] at H; exact H
    clear H
    have H := H1
    clear H1
    have HC12 := Aside0.mk H
    clear H
    have hnb13 := NB310_309.out
    have hnc13 := NB309_310.out
    have hcz14_0 : wc.cell? ⟨gb310, 0, none⟩ = some (.int .i64 a1_0) := (blk_cell BK310.out 0).trans rfl
    have hcz14_1 : wc.cell? ⟨gb310, 1, none⟩ = some (.slice A1_1 l1_1.length c1_1) := (blk_cell BK310.out 1).trans rfl
    have hcz14_2 : wc.cell? ⟨gb310, 2, none⟩ = some (.int .i64 a1_2) := (blk_cell BK310.out 2).trans rfl
    have hcz14_3 : wc.cell? ⟨gb310, 3, none⟩ = some (.int .i64 a1_3) := (blk_cell BK310.out 3).trans rfl
    have hcz14_4 : wc.cell? ⟨gb310, 4, none⟩ = some (.int .i64 a1_4) := (blk_cell BK310.out 4).trans rfl
    have hcz14_5 : wc.cell? ⟨gb310, 5, none⟩ = some (.slice A1_5 l1_5.length c1_5) := (blk_cell BK310.out 5).trans rfl
    have hcz14_6 : wc.cell? ⟨gb310, 6, none⟩ = some (.int .i64 a1_6) := (blk_cell BK310.out 6).trans rfl
    have hcz14_7 : wc.cell? ⟨gb310, 7, none⟩ = some (.int .i64 a1_7) := (blk_cell BK310.out 7).trans rfl
    have hcz14_8 : wc.cell? ⟨gb310, 8, none⟩ = some (.int .i64 a1_8) := (blk_cell BK310.out 8).trans rfl
    have hcz14_9 : wc.cell? ⟨gb310, 9, none⟩ = some (.int .i64 a1_9) := (blk_cell BK310.out 9).trans rfl
    have hfz14_0 := blk_frozen BK310.out 0
    have hfz14_1 := blk_frozen BK310.out 1
    have hfz14_2 := blk_frozen BK310.out 2
    have hfz14_3 := blk_frozen BK310.out 3
    have hfz14_4 := blk_frozen BK310.out 4
    have hfz14_5 := blk_frozen BK310.out 5
    have hfz14_6 := blk_frozen BK310.out 6
    have hfz14_7 := blk_frozen BK310.out 7
    have hfz14_8 := blk_frozen BK310.out 8
    have hfz14_9 := blk_frozen BK310.out 9
    go_upto_block 0 with (fail)
    repeat (go_quiet (fail); go_upto_block 0 with (fail))
    go_cut [] (fun wc => ∃ (kq : Nat), Aside0 (leatref8_node.j1 kq (l1_1.length : Int) l0_0 a1_0 l1_1 a1_2 a1_3 a1_4 l1_5 a1_6 a1_7 a1_8 a1_9 = some r) ∧ Aside0 (kq ≤ kj2) ∧ Aside0 (wc.heap[gb309]? = some (.cells #[(.slice A0_0 l0_0.length c0_0)] 24 (0, 0))) ∧ Aside0 (wc.heap[gb310]? = some (.cells #[.int .i64 a1_0, (.slice A1_1 l1_1.length c1_1), .int .i64 a1_2, .int .i64 a1_3, .int .i64 a1_4, (.slice A1_5 l1_5.length c1_5), .int .i64 a1_6, .int .i64 a1_7, .int .i64 a1_8, .int .i64 a1_9] 38 (0, 0))) ∧ Aside0 (Below w.heap.size w wc))
    case first =>
     have H := HC12.out
     clear HC12
     by_cases c15 : a1_0 = 1
     ·rw [if_pos c15] at H
      have c15b0 : (a1_0 == 1) = true := beq_iff_eq.mpr c15
      have c15b1 : (a1_0 != 1) = false := bne_eq_false_iff_eq.mpr c15
      clear c15
      (first | rw [c15b0] | (simp only [i64_w, i32_w]; rw [c15b0]) | skip)
      by_cases c16 : (l1_1.length : Int) = 0
      ·rw [if_pos c16] at H
       have c16b0 : ((l1_1.length : Int) == 0) = true := beq_iff_eq.mpr c16
       have c16b1 : ((l1_1.length : Int) != 0) = false := bne_eq_false_iff_eq.mpr c16
       clear c16
       as_aux_lemma =>
        have H' := Aside0.mk H
        clear H
        go_wp2
        repeat (go_quiet (fail); try go_wp2)
        go_meet
        case rel => exact ⟨_, H', ⟨by have := HJ2.out; first | omega | exact Nat.le_refl _⟩, ⟨by (with_reducible repeat (first | refine blk_drewN ?_ _ | refine blk_drew ?_ | refine blk_alloc ?_ _)); exact BK309.out⟩, ⟨by (with_reducible repeat (first | refine blk_drewN ?_ _ | refine blk_drew ?_ | refine blk_alloc ?_ _)); exact BK310.out⟩, ⟨by repeat (first | (with_reducible first | exact HB.out | apply below_alloc | apply pw_below_drewN | apply below_drew1 | refine below_set ?_ GE309.out | refine below_set ?_ GE310.out) | exact HB.out)⟩⟩
      ·rw [if_neg c16] at H
       exact absurd H (by simp)
     ·rw [if_neg c15] at H
      have c15b0 : (a1_0 == 1) = false := beq_eq_false_iff_ne.mpr c15
      have c15b1 : (a1_0 != 1) = true := bne_iff_ne.mpr c15
      (first | rw [c15b0] | (simp only [i64_w, i32_w]; rw [c15b0]) | skip)
      by_cases c17 : a1_0 = 5
      ·rw [if_pos c17] at H
       have c17b0 : (a1_0 == 5) = true := beq_iff_eq.mpr c17
       have c17b1 : (a1_0 != 5) = false := bne_eq_false_iff_eq.mpr c17
       clear c17
       by_cases c18 : (l1_1.length : Int) < 1
       ·rw [if_pos c18] at H
        exact absurd H (by simp)
       ·rw [if_neg c18] at H
        have c18b0 : decide ((l1_1.length : Int) < 1) = false := decide_eq_false c18
        have c18b1 : decide (l1_1.length < 1) = false := decide_eq_false (by omega)
        clear c18
        by_cases c19 : (l1_1.length : Int) > 4
        ·rw [if_pos c19] at H
         exact absurd H (by simp)
        ·rw [if_neg c19] at H
         have c19b0 : decide (4 < (l1_1.length : Int)) = false := decide_eq_false c19
         have c19b1 : decide (4 < l1_1.length) = false := decide_eq_false (by omega)
         clear c19
         as_aux_lemma =>
          have H' := Aside0.mk H
          clear H
          go_wp2
          repeat (go_quiet (fail); try go_wp2)
          go_meet
          case rel => exact ⟨_, H', ⟨by have := HJ2.out; first | omega | exact Nat.le_refl _⟩, ⟨by (with_reducible repeat (first | refine blk_drewN ?_ _ | refine blk_drew ?_ | refine blk_alloc ?_ _)); exact BK309.out⟩, ⟨by (with_reducible repeat (first | refine blk_drewN ?_ _ | refine blk_drew ?_ | refine blk_alloc ?_ _)); exact BK310.out⟩, ⟨by repeat (first | (with_reducible first | exact HB.out | apply below_alloc | apply pw_below_drewN | apply below_drew1 | refine below_set ?_ GE309.out | refine below_set ?_ GE310.out) | exact HB.out)⟩⟩
      ·rw [if_neg c17] at H
       have c17b0 : (a1_0 == 5) = false := beq_eq_false_iff_ne.mpr c17
       have c17b1 : (a1_0 != 5) = true := bne_iff_ne.mpr c17
       by_cases c20 : (l1_1.length : Int) = 1
       ·rw [if_pos c20] at H
        have c20b0 : ((l1_1.length : Int) == 1) = true := beq_iff_eq.mpr c20
        have c20b1 : ((l1_1.length : Int) != 1) = false := bne_eq_false_iff_eq.mpr c20
        clear c20
        as_aux_lemma =>
         have H' := Aside0.mk H
         clear H
         go_wp2
         repeat (go_quiet (fail); try go_wp2)
         go_meet
         case rel => exact ⟨_, H', ⟨by have := HJ2.out; first | omega | exact Nat.le_refl _⟩, ⟨by (with_reducible repeat (first | refine blk_drewN ?_ _ | refine blk_drew ?_ | refine blk_alloc ?_ _)); exact BK309.out⟩, ⟨by (with_reducible repeat (first | refine blk_drewN ?_ _ | refine blk_drew ?_ | refine blk_alloc ?_ _)); exact BK310.out⟩, ⟨by repeat (first | (with_reducible first | exact HB.out | apply below_alloc | apply pw_below_drewN | apply below_drew1 | refine below_set ?_ GE309.out | refine below_set ?_ GE310.out) | exact HB.out)⟩⟩
       ·rw [if_neg c20] at H
        exact absurd H (by simp)
    case rest =>
     clear HC12
     try clear c1; try clear c2; try clear p2; try clear c3; try clear c6; try clear c6b0; try clear c7; try clear c9; try clear c11; try clear c13; try clear c15; try clear c15b0; try clear c15b1; try clear c16; try clear c16b0; try clear c16b1; try clear c17; try clear c17b0; try clear c17b1; try clear c18; try clear c18b0; try clear c18b1; try clear c19; try clear c19b0; try clear c19b1; try clear c20; try clear c20b0; try clear c20b1; try clear hcz10_0; try clear hcz10_1; try clear hcz10_2; try clear hcz10_3; try clear hcz10_4; try clear hcz10_5; try clear hcz10_6; try clear hcz10_7; try clear hcz10_8; try clear hcz10_9; try clear hcz14_0; try clear hcz14_1; try clear hcz14_2; try clear hcz14_3; try clear hcz14_4; try clear hcz14_5; try clear hcz14_6; try clear hcz14_7; try clear hcz14_8; try clear hcz14_9; try clear hcz8_0; try clear hcz8_1; try clear hcz8_2; try clear hcz8_3; try clear hcz8_4; try clear hcz8_5; try clear hcz8_6; try clear hcz8_7; try clear hcz8_8; try clear hcz8_9; try clear hfz10_0; try clear hfz10_1; try clear hfz10_2; try clear hfz10_3; try clear hfz10_4; try clear hfz10_5; try clear hfz10_6; try clear hfz10_7; try clear hfz10_8; try clear hfz10_9; try clear hfz14_0; try clear hfz14_1; try clear hfz14_2; try clear hfz14_3; try clear hfz14_4; try clear hfz14_5; try clear hfz14_6; try clear hfz14_7; try clear hfz14_8; try clear hfz14_9; try clear hfz8_0; try clear hfz8_1; try clear hfz8_2; try clear hfz8_3; try clear hfz8_4; try clear hfz8_5; try clear hfz8_6; try clear hfz8_7; try clear hfz8_8; try clear hfz8_9; try clear p2
     obtain ⟨kq, HA, HJ11, BK309, BK310, HB⟩ := hcut
     cases kq with
     | zero => exact absurd HA.out (by simp [leatref8_node.j1])
     | succ kj11 =>
      have H := HA.out
      clear HA
      simp only [leatref8_node.j1] at H
      have H' := Aside0.mk H
      clear H
      go_wp2
      repeat (go_quiet (fail); try go_wp2)
      go_loopg [6] kj11 (fun kq v6 w' => ∃ (x6_3 : Int), v6 = .int .i64 x6_3 ∧ Aside0 (leatref8_node.l0 kq (l1_1.length : Int) x6_3 l0_0 a1_0 l1_1 a1_2 a1_3 a1_4 l1_5 a1_6 a1_7 a1_8 a1_9 = some r) ∧ Aside0 (kq ≤ kj11) ∧ Aside0 (w'.heap[gb309]? = some (.cells #[(.slice A0_0 l0_0.length c0_0)] 24 (0, 0))) ∧ Aside0 (w'.heap[gb310]? = some (.cells #[.int .i64 a1_0, (.slice A1_1 l1_1.length c1_1), .int .i64 a1_2, .int .i64 a1_3, .int .i64 a1_4, (.slice A1_5 l1_5.length c1_5), .int .i64 a1_6, .int .i64 a1_7, .int .i64 a1_8, .int .i64 a1_9] 38 (0, 0))) ∧ Aside0 (Below w.heap.size w w'))
      case atStart => exact ⟨(0), (by first | rfl | (simp; done) | (simp [*]; done)), H', ⟨Nat.le_refl _⟩, ⟨by (with_reducible repeat (first | refine blk_drewN ?_ _ | refine blk_drew ?_ | refine blk_alloc ?_ _)); exact BK309.out⟩, ⟨by (with_reducible repeat (first | refine blk_drewN ?_ _ | refine blk_drew ?_ | refine blk_alloc ?_ _)); exact BK310.out⟩, ⟨by repeat (first | (with_reducible first | exact HB.out | apply below_alloc | apply pw_below_drewN | apply below_drew1 | refine below_set ?_ GE309.out | refine below_set ?_ GE310.out) | exact HB.out)⟩⟩
      case round =>
       clear H'
       try clear c1; try clear c2; try clear p2; try clear c3; try clear c6; try clear c6b0; try clear c7; try clear c9; try clear c11; try clear c13; try clear c15; try clear c15b0; try clear c15b1; try clear c16; try clear c16b0; try clear c16b1; try clear c17; try clear c17b0; try clear c17b1; try clear c18; try clear c18b0; try clear c18b1; try clear c19; try clear c19b0; try clear c19b1; try clear c20; try clear c20b0; try clear c20b1; try clear hcz10_0; try clear hcz10_1; try clear hcz10_2; try clear hcz10_3; try clear hcz10_4; try clear hcz10_5; try clear hcz10_6; try clear hcz10_7; try clear hcz10_8; try clear hcz10_9; try clear hcz14_0; try clear hcz14_1; try clear hcz14_2; try clear hcz14_3; try clear hcz14_4; try clear hcz14_5; try clear hcz14_6; try clear hcz14_7; try clear hcz14_8; try clear hcz14_9; try clear hcz8_0; try clear hcz8_1; try clear hcz8_2; try clear hcz8_3; try clear hcz8_4; try clear hcz8_5; try clear hcz8_6; try clear hcz8_7; try clear hcz8_8; try clear hcz8_9; try clear hfz10_0; try clear hfz10_1; try clear hfz10_2; try clear hfz10_3; try clear hfz10_4; try clear hfz10_5; try clear hfz10_6; try clear hfz10_7; try clear hfz10_8; try clear hfz10_9; try clear hfz14_0; try clear hfz14_1; try clear hfz14_2; try clear hfz14_3; try clear hfz14_4; try clear hfz14_5; try clear hfz14_6; try clear hfz14_7; try clear hfz14_8; try clear hfz14_9; try clear hfz8_0; try clear hfz8_1; try clear hfz8_2; try clear hfz8_3; try clear hfz8_4; try clear hfz8_5; try clear hfz8_6; try clear hfz8_7; try clear hfz8_8; try clear hfz8_9; try clear p2
       obtain ⟨x6_3, rfl, HA, HK3, BK309, BK310, HB⟩ := hrel
       cases gk with
       | zero => exact absurd HA.out (by simp [leatref8_node.l0])
       | succ k3 =>
        have H := HA.out
        clear HA
        simp only [leatref8_node.l0] at H
        by_cases c21 : x6_3 < (l1_1.length : Int)
        ·rw [if_pos c21] at H
         have c21b0 : decide (x6_3 < (l1_1.length : Int)) = true := decide_eq_true c21
         clear c21
         by_cases c22 : 0 ≤ x6_3
         ·rw [if_pos c22] at H
          have c22b0 : decide (0 ≤ x6_3) = true := decide_eq_true c22
          clear c22
          by_cases c23 : x6_3 < (l1_1.length : Int)
          ·rw [if_pos c23] at H
           have c23b0 : decide (x6_3 < (l1_1.length : Int)) = true := decide_eq_true c23
           clear c23
           by_cases c24 : (rd l1_1 x6_3) < 0
           ·rw [if_pos c24] at H
            exact absurd H (by simp)
           ·rw [if_neg c24] at H
            have c24b0 : decide ((rd l1_1 x6_3) < 0) = false := decide_eq_false c24
            clear c24
            by_cases c25 : (rd l1_1 x6_3) ≥ (l0_0.length : Int)
            ·rw [if_pos c25] at H
             exact absurd H (by simp)
            ·rw [if_neg c25] at H
             have c25b0 : decide ((l0_0.length : Int) ≤ (rd l1_1 x6_3)) = false := decide_eq_false c25
             clear c25
             by_cases c26 : 0 ≤ (rd l1_1 x6_3)
             ·rw [if_pos c26] at H
              have c26b0 : decide (0 ≤ (rd l1_1 x6_3)) = true := decide_eq_true c26
              clear c26
              by_cases c27 : (rd l1_1 x6_3) < (l0_0.length : Int)
              ·rw [if_pos c27] at H
               have c27b0 : decide ((rd l1_1 x6_3) < (l0_0.length : Int)) = true := decide_eq_true c27
               clear c27
               by_cases c28 : ((rd_T38 l0_0 (rd l1_1 x6_3)).f0) = 8
               ·rw [if_pos c28] at H
                exact absurd H (by simp)
               ·rw [if_neg c28] at H
                have c28b0 : (((rd_T38 l0_0 (rd l1_1 x6_3)).f0) == 8) = false := beq_eq_false_iff_ne.mpr c28
                have c28b1 : (((rd_T38 l0_0 (rd l1_1 x6_3)).f0) != 8) = true := bne_iff_ne.mpr c28
                as_aux_lemma =>
                 have H' := Aside0.mk H
                 clear H
                 have hnb29 := NB310_309.out
                 have hnc29 := NB309_310.out
                 have hcz30_0 : wr.cell? ⟨gb310, 0, none⟩ = some (.int .i64 a1_0) := (blk_cell BK310.out 0).trans rfl
                 have hcz30_1 : wr.cell? ⟨gb310, 1, none⟩ = some (.slice A1_1 l1_1.length c1_1) := (blk_cell BK310.out 1).trans rfl
                 have hcz30_2 : wr.cell? ⟨gb310, 2, none⟩ = some (.int .i64 a1_2) := (blk_cell BK310.out 2).trans rfl
                 have hcz30_3 : wr.cell? ⟨gb310, 3, none⟩ = some (.int .i64 a1_3) := (blk_cell BK310.out 3).trans rfl
                 have hcz30_4 : wr.cell? ⟨gb310, 4, none⟩ = some (.int .i64 a1_4) := (blk_cell BK310.out 4).trans rfl
                 have hcz30_5 : wr.cell? ⟨gb310, 5, none⟩ = some (.slice A1_5 l1_5.length c1_5) := (blk_cell BK310.out 5).trans rfl
                 have hcz30_6 : wr.cell? ⟨gb310, 6, none⟩ = some (.int .i64 a1_6) := (blk_cell BK310.out 6).trans rfl
                 have hcz30_7 : wr.cell? ⟨gb310, 7, none⟩ = some (.int .i64 a1_7) := (blk_cell BK310.out 7).trans rfl
                 have hcz30_8 : wr.cell? ⟨gb310, 8, none⟩ = some (.int .i64 a1_8) := (blk_cell BK310.out 8).trans rfl
                 have hcz30_9 : wr.cell? ⟨gb310, 9, none⟩ = some (.int .i64 a1_9) := (blk_cell BK310.out 9).trans rfl
                 have hfz30_0 := blk_frozen BK310.out 0
                 have hfz30_1 := blk_frozen BK310.out 1
                 have hfz30_2 := blk_frozen BK310.out 2
                 have hfz30_3 := blk_frozen BK310.out 3
                 have hfz30_4 := blk_frozen BK310.out 4
                 have hfz30_5 := blk_frozen BK310.out 5
                 have hfz30_6 := blk_frozen BK310.out 6
                 have hfz30_7 := blk_frozen BK310.out 7
                 have hfz30_8 := blk_frozen BK310.out 8
                 have hfz30_9 := blk_frozen BK310.out 9
                 have p311 : 0 ≤ (x6_3 : Int) := of_decide_eq_true (by first | (with_reducible assumption) | assumption)
                 have q311 : x6_3 < (l1_1.length : Int) := of_decide_eq_true (by first | (with_reducible assumption) | assumption)
                 obtain ⟨ad311, e311, hx311_0⟩ := Kd.at_int HR1_1.out x6_3 p311 q311
                 cases e311
                 replace hx311_0 := (HB.out.cell (World.block_lt_of_cell? w _ hx311_0)).trans hx311_0
                 replace p311 := eq_true p311
                 replace q311 := eq_true q311
                 have p312 : 0 ≤ (x6_3 : Int) := of_decide_eq_true (by first | (with_reducible assumption) | assumption)
                 have q312 : x6_3 < (l1_1.length : Int) := of_decide_eq_true (by first | (with_reducible assumption) | assumption)
                 obtain ⟨ad312, e312, hx312_0⟩ := Kd.at_int HR1_1.out x6_3 p312 q312
                 obtain rfl : ad311 = ad312 := (by injection e312)
                 replace hx312_0 := (HB.out.cell (World.block_lt_of_cell? w _ hx312_0)).trans hx312_0
                 replace p312 := eq_true p312
                 replace q312 := eq_true q312
                 have hcz31_0 : wr.cell? ⟨gb309, 0, none⟩ = some (.slice A0_0 l0_0.length c0_0) := (blk_cell BK309.out 0).trans rfl
                 have hfz31_0 := blk_frozen BK309.out 0
                 have p313 : 0 ≤ (x6_3 : Int) := of_decide_eq_true (by first | (with_reducible assumption) | assumption)
                 have q313 : x6_3 < (l1_1.length : Int) := of_decide_eq_true (by first | (with_reducible assumption) | assumption)
                 obtain ⟨ad313, e313, hx313_0⟩ := Kd.at_int HR1_1.out x6_3 p313 q313
                 obtain rfl : ad311 = ad313 := (by injection e313)
                 replace hx313_0 := (HB.out.cell (World.block_lt_of_cell? w _ hx313_0)).trans hx313_0
                 replace p313 := eq_true p313
                 replace q313 := eq_true q313
                 have p314 : 0 ≤ ((rd l1_1 x6_3) : Int) := of_decide_eq_true (by first | (with_reducible assumption) | assumption)
                 have q314 : (rd l1_1 x6_3) < (l0_0.length : Int) := of_decide_eq_true (by first | (with_reducible assumption) | assumption)
                 obtain ⟨ad314, A314_1, c314_1, A314_5, c314_5, e314, hx314_0, hx314_1, hx314_2, hx314_3, hx314_4, hx314_5, hx314_6, hx314_7, hx314_8, hx314_9, hl314_1, hi314_1, hl314_5, hi314_5⟩ := at_T38 HR0_0.out (rd l1_1 x6_3) p314 q314
                 cases e314
                 replace hx314_0 := (HB.out.cell (World.block_lt_of_cell? w _ hx314_0)).trans hx314_0
                 replace hx314_1 := (HB.out.cell (World.block_lt_of_cell? w _ hx314_1)).trans hx314_1
                 replace hx314_2 := (HB.out.cell (World.block_lt_of_cell? w _ hx314_2)).trans hx314_2
                 replace hx314_3 := (HB.out.cell (World.block_lt_of_cell? w _ hx314_3)).trans hx314_3
                 replace hx314_4 := (HB.out.cell (World.block_lt_of_cell? w _ hx314_4)).trans hx314_4
                 replace hx314_5 := (HB.out.cell (World.block_lt_of_cell? w _ hx314_5)).trans hx314_5
                 replace hx314_6 := (HB.out.cell (World.block_lt_of_cell? w _ hx314_6)).trans hx314_6
                 replace hx314_7 := (HB.out.cell (World.block_lt_of_cell? w _ hx314_7)).trans hx314_7
                 replace hx314_8 := (HB.out.cell (World.block_lt_of_cell? w _ hx314_8)).trans hx314_8
                 replace hx314_9 := (HB.out.cell (World.block_lt_of_cell? w _ hx314_9)).trans hx314_9
                 have HR314_1 := Aside0.mk hi314_1
                 have HC314_1 := Aside0.mk hl314_1
                 clear hi314_1 hl314_1
                 have HR314_5 := Aside0.mk hi314_5
                 have HC314_5 := Aside0.mk hl314_5
                 clear hi314_5 hl314_5
                 replace p314 := eq_true p314
                 replace q314 := eq_true q314
                 go_wp2
                 repeat (go_quiet (fail); try go_wp2)
                 go_roundg k3
                 case measure => have := HJ2.out; have := HJ11.out; have := HK3.out; omega
                 case rel => exact ⟨(wrap64 (x6_3 + 1)), (by first | rfl | (simp; done) | (simp [*]; done)), H', ⟨by have := HJ2.out; have := HJ11.out; have := HK3.out; omega⟩, ⟨by (with_reducible repeat (first | refine blk_drewN ?_ _ | refine blk_drew ?_ | refine blk_alloc ?_ _)); exact BK309.out⟩, ⟨by (with_reducible repeat (first | refine blk_drewN ?_ _ | refine blk_drew ?_ | refine blk_alloc ?_ _)); exact BK310.out⟩, ⟨by repeat (first | (with_reducible first | exact HB.out | apply below_alloc | apply pw_below_drewN | apply below_drew1 | refine below_set ?_ GE309.out | refine below_set ?_ GE310.out) | exact HB.out)⟩⟩
              ·rw [if_neg c27] at H
               exact absurd H (by simp)
             ·rw [if_neg c26] at H
              exact absurd H (by simp)
          ·rw [if_neg c23] at H
           exact absurd H (by simp)
         ·rw [if_neg c22] at H
          exact absurd H (by simp)
        ·rw [if_neg c21] at H
         have c21b0 : decide (x6_3 < (l1_1.length : Int)) = false := decide_eq_false c21
         clear c21
         have HC32 := Aside0.mk H
         clear H
         go_upto_region 18 with (fail)
         repeat (go_quiet (fail); go_upto_region 18 with (fail))
         go_cut [77] (fun v77 wc => ∃ (kq : Nat) (x77_31 : Bool), v77 = .bool x77_31 ∧ Aside0 (leatref8_node.j3 kq x77_31 a1_0 l1_1 a1_2 a1_3 a1_4 l1_5 a1_6 a1_7 a1_8 a1_9 = some r) ∧ Aside0 (kq ≤ k3) ∧ Aside0 (wc.heap[gb309]? = some (.cells #[(.slice A0_0 l0_0.length c0_0)] 24 (0, 0))) ∧ Aside0 (wc.heap[gb310]? = some (.cells #[.int .i64 a1_0, (.slice A1_1 l1_1.length c1_1), .int .i64 a1_2, .int .i64 a1_3, .int .i64 a1_4, (.slice A1_5 l1_5.length c1_5), .int .i64 a1_6, .int .i64 a1_7, .int .i64 a1_8, .int .i64 a1_9] 38 (0, 0))) ∧ Aside0 (Below w.heap.size w wc))
         case first =>
          have H := HC32.out
          clear HC32
          by_cases c33 : a1_2 < 1
          ·rw [if_pos c33] at H
           have c33b0 : decide (a1_2 < 1) = true := decide_eq_true c33
           clear c33
           (first | rw [c33b0] | (simp only [i64_w, i32_w]; rw [c33b0]) | skip)
           as_aux_lemma =>
            have H' := Aside0.mk H
            clear H
            have hnb34 := NB310_309.out
            have hnc34 := NB309_310.out
            have hcz35_0 : wr.cell? ⟨gb310, 0, none⟩ = some (.int .i64 a1_0) := (blk_cell BK310.out 0).trans rfl
            have hcz35_1 : wr.cell? ⟨gb310, 1, none⟩ = some (.slice A1_1 l1_1.length c1_1) := (blk_cell BK310.out 1).trans rfl
            have hcz35_2 : wr.cell? ⟨gb310, 2, none⟩ = some (.int .i64 a1_2) := (blk_cell BK310.out 2).trans rfl
            have hcz35_3 : wr.cell? ⟨gb310, 3, none⟩ = some (.int .i64 a1_3) := (blk_cell BK310.out 3).trans rfl
            have hcz35_4 : wr.cell? ⟨gb310, 4, none⟩ = some (.int .i64 a1_4) := (blk_cell BK310.out 4).trans rfl
            have hcz35_5 : wr.cell? ⟨gb310, 5, none⟩ = some (.slice A1_5 l1_5.length c1_5) := (blk_cell BK310.out 5).trans rfl
            have hcz35_6 : wr.cell? ⟨gb310, 6, none⟩ = some (.int .i64 a1_6) := (blk_cell BK310.out 6).trans rfl
            have hcz35_7 : wr.cell? ⟨gb310, 7, none⟩ = some (.int .i64 a1_7) := (blk_cell BK310.out 7).trans rfl
            have hcz35_8 : wr.cell? ⟨gb310, 8, none⟩ = some (.int .i64 a1_8) := (blk_cell BK310.out 8).trans rfl
            have hcz35_9 : wr.cell? ⟨gb310, 9, none⟩ = some (.int .i64 a1_9) := (blk_cell BK310.out 9).trans rfl
            have hfz35_0 := blk_frozen BK310.out 0
            have hfz35_1 := blk_frozen BK310.out 1
            have hfz35_2 := blk_frozen BK310.out 2
            have hfz35_3 := blk_frozen BK310.out 3
            have hfz35_4 := blk_frozen BK310.out 4
            have hfz35_5 := blk_frozen BK310.out 5
            have hfz35_6 := blk_frozen BK310.out 6
            have hfz35_7 := blk_frozen BK310.out 7
            have hfz35_8 := blk_frozen BK310.out 8
            have hfz35_9 := blk_frozen BK310.out 9
            go_wp2
            repeat (go_quiet (fail); try go_wp2)
            go_meet
            case rel => exact ⟨_, (true), (by first | rfl | (simp; done) | (simp [*]; done)), H', ⟨by have := HJ2.out; have := HJ11.out; have := HK3.out; first | omega | exact Nat.le_refl _⟩, ⟨by (with_reducible repeat (first | refine blk_drewN ?_ _ | refine blk_drew ?_ | refine blk_alloc ?_ _)); exact BK309.out⟩, ⟨by (with_reducible repeat (first | refine blk_drewN ?_ _ | refine blk_drew ?_ | refine blk_alloc ?_ _)); exact BK310.out⟩, ⟨by repeat (first | (with_reducible first | exact HB.out | apply below_alloc | apply pw_below_drewN | apply below_drew1 | refine below_set ?_ GE309.out | refine below_set ?_ GE310.out) | exact HB.out)⟩⟩
          ·rw [if_neg c33] at H
           have c33b0 : decide (a1_2 < 1) = false := decide_eq_false c33
           clear c33
           (first | rw [c33b0] | (simp only [i64_w, i32_w]; rw [c33b0]) | skip)
           as_aux_lemma =>
            have H' := Aside0.mk H
            clear H
            have hnb36 := NB310_309.out
            have hnc36 := NB309_310.out
            have hcz37_0 : wr.cell? ⟨gb310, 0, none⟩ = some (.int .i64 a1_0) := (blk_cell BK310.out 0).trans rfl
            have hcz37_1 : wr.cell? ⟨gb310, 1, none⟩ = some (.slice A1_1 l1_1.length c1_1) := (blk_cell BK310.out 1).trans rfl
            have hcz37_2 : wr.cell? ⟨gb310, 2, none⟩ = some (.int .i64 a1_2) := (blk_cell BK310.out 2).trans rfl
            have hcz37_3 : wr.cell? ⟨gb310, 3, none⟩ = some (.int .i64 a1_3) := (blk_cell BK310.out 3).trans rfl
            have hcz37_4 : wr.cell? ⟨gb310, 4, none⟩ = some (.int .i64 a1_4) := (blk_cell BK310.out 4).trans rfl
            have hcz37_5 : wr.cell? ⟨gb310, 5, none⟩ = some (.slice A1_5 l1_5.length c1_5) := (blk_cell BK310.out 5).trans rfl
            have hcz37_6 : wr.cell? ⟨gb310, 6, none⟩ = some (.int .i64 a1_6) := (blk_cell BK310.out 6).trans rfl
            have hcz37_7 : wr.cell? ⟨gb310, 7, none⟩ = some (.int .i64 a1_7) := (blk_cell BK310.out 7).trans rfl
            have hcz37_8 : wr.cell? ⟨gb310, 8, none⟩ = some (.int .i64 a1_8) := (blk_cell BK310.out 8).trans rfl
            have hcz37_9 : wr.cell? ⟨gb310, 9, none⟩ = some (.int .i64 a1_9) := (blk_cell BK310.out 9).trans rfl
            have hfz37_0 := blk_frozen BK310.out 0
            have hfz37_1 := blk_frozen BK310.out 1
            have hfz37_2 := blk_frozen BK310.out 2
            have hfz37_3 := blk_frozen BK310.out 3
            have hfz37_4 := blk_frozen BK310.out 4
            have hfz37_5 := blk_frozen BK310.out 5
            have hfz37_6 := blk_frozen BK310.out 6
            have hfz37_7 := blk_frozen BK310.out 7
            have hfz37_8 := blk_frozen BK310.out 8
            have hfz37_9 := blk_frozen BK310.out 9
            go_wp2
            repeat (go_quiet (fail); try go_wp2)
            go_meet
            case rel => exact ⟨_, (decide (a1_2 > 4)), (by first | rfl | (simp; done) | (simp [*]; done)), H', ⟨by have := HJ2.out; have := HJ11.out; have := HK3.out; first | omega | exact Nat.le_refl _⟩, ⟨by (with_reducible repeat (first | refine blk_drewN ?_ _ | refine blk_drew ?_ | refine blk_alloc ?_ _)); exact BK309.out⟩, ⟨by (with_reducible repeat (first | refine blk_drewN ?_ _ | refine blk_drew ?_ | refine blk_alloc ?_ _)); exact BK310.out⟩, ⟨by repeat (first | (with_reducible first | exact HB.out | apply below_alloc | apply pw_below_drewN | apply below_drew1 | refine below_set ?_ GE309.out | refine below_set ?_ GE310.out) | exact HB.out)⟩⟩
         case rest =>
          clear HC32
          try clear c1; try clear c2; try clear p2; try clear c3; try clear p3; try clear q3; try clear hx3; try clear c6; try clear c6b0; try clear p6; try clear c7; try clear c9; try clear c11; try clear c13; try clear c15; try clear c15b0; try clear c15b1; try clear c16; try clear c16b0; try clear c16b1; try clear c17; try clear c17b0; try clear c17b1; try clear c18; try clear c18b0; try clear c18b1; try clear c19; try clear c19b0; try clear c19b1; try clear c20; try clear c20b0; try clear c20b1; try clear c21; try clear c21b0; try clear c22; try clear c22b0; try clear c23; try clear c23b0; try clear c24; try clear c24b0; try clear c25; try clear c25b0; try clear c26; try clear c26b0; try clear c27; try clear c27b0; try clear c28; try clear c28b0; try clear c28b1; try clear c29; try clear c31; try clear p31; try clear q31; try clear hx31; try clear c33; try clear c33b0; try clear c34; try clear c36; try clear hcz10_0; try clear hcz10_1; try clear hcz10_2; try clear hcz10_3; try clear hcz10_4; try clear hcz10_5; try clear hcz10_6; try clear hcz10_7; try clear hcz10_8; try clear hcz10_9; try clear hcz14_0; try clear hcz14_1; try clear hcz14_2; try clear hcz14_3; try clear hcz14_4; try clear hcz14_5; try clear hcz14_6; try clear hcz14_7; try clear hcz14_8; try clear hcz14_9; try clear hcz30_0; try clear hcz30_1; try clear hcz30_2; try clear hcz30_3; try clear hcz30_4; try clear hcz30_5; try clear hcz30_6; try clear hcz30_7; try clear hcz30_8; try clear hcz30_9; try clear hcz31_0; try clear hcz35_0; try clear hcz35_1; try clear hcz35_2; try clear hcz35_3; try clear hcz35_4; try clear hcz35_5; try clear hcz35_6; try clear hcz35_7; try clear hcz35_8; try clear hcz35_9; try clear hcz37_0; try clear hcz37_1; try clear hcz37_2; try clear hcz37_3; try clear hcz37_4; try clear hcz37_5; try clear hcz37_6; try clear hcz37_7; try clear hcz37_8; try clear hcz37_9; try clear hcz8_0; try clear hcz8_1; try clear hcz8_2; try clear hcz8_3; try clear hcz8_4; try clear hcz8_5; try clear hcz8_6; try clear hcz8_7; try clear hcz8_8; try clear hcz8_9; try clear hfz10_0; try clear hfz10_1; try clear hfz10_2; try clear hfz10_3; try clear hfz10_4; try clear hfz10_5; try clear hfz10_6; try clear hfz10_7; try clear hfz10_8; try clear hfz10_9; try clear hfz14_0; try clear hfz14_1; try clear hfz14_2; try clear hfz14_3; try clear hfz14_4; try clear hfz14_5; try clear hfz14_6; try clear hfz14_7; try clear hfz14_8; try clear hfz14_9; try clear hfz30_0; try clear hfz30_1; try clear hfz30_2; try clear hfz30_3; try clear hfz30_4; try clear hfz30_5; try clear hfz30_6; try clear hfz30_7; try clear hfz30_8; try clear hfz30_9; try clear hfz31_0; try clear hfz35_0; try clear hfz35_1; try clear hfz35_2; try clear hfz35_3; try clear hfz35_4; try clear hfz35_5; try clear hfz35_6; try clear hfz35_7; try clear hfz35_8; try clear hfz35_9; try clear hfz37_0; try clear hfz37_1; try clear hfz37_2; try clear hfz37_3; try clear hfz37_4; try clear hfz37_5; try clear hfz37_6; try clear hfz37_7; try clear hfz37_8; try clear hfz37_9; try clear hfz8_0; try clear hfz8_1; try clear hfz8_2; try clear hfz8_3; try clear hfz8_4; try clear hfz8_5; try clear hfz8_6; try clear hfz8_7; try clear hfz8_8; try clear hfz8_9; try clear hx311_0; try clear hx312_0; try clear hx313_0; try clear hx314_0; try clear hx314_1; try clear hx314_2; try clear hx314_3; try clear hx314_4; try clear hx314_5; try clear hx314_6; try clear hx314_7; try clear hx314_8; try clear hx314_9; try clear p2; try clear p311; try clear p312; try clear p313; try clear p314; try clear q311; try clear q312; try clear q313; try clear q314
          obtain ⟨kq, x77_31, rfl, HA, HJ31, BK309, BK310, HB⟩ := hcut
          cases kq with
          | zero => exact absurd HA.out (by simp [leatref8_node.j3])
          | succ kj31 =>
           have H := HA.out
           clear HA
           simp only [leatref8_node.j3] at H
           by_cases c38 : x77_31 = true
           ·subst c38
            have H1 : (none) = some r := by rw [if_pos rfl] at H; exact H
            clear H
            have H := H1
            clear H1
            exact absurd H (by simp)
           ·replace c38 := Bool.eq_false_iff.mpr c38
            subst c38
            have H1 : (if a1_0 = 2 then (none) else (if a1_0 = 3 then (none) else (if a1_0 = 4 then (none) else ((leatref7_Zero.f a1_3 a1_4 l1_5).bind fun t315 => (if t315 = true then (if a1_0 = 6 then (leatref8_node.j4 kj31 true a1_0 l1_1 a1_2 a1_3 a1_4 l1_5 a1_6 a1_7 a1_8 a1_9) else (leatref8_node.j4 kj31 (a1_0 == 7) a1_0 l1_1 a1_2 a1_3 a1_4 l1_5 a1_6 a1_7 a1_8 a1_9)) else (none)))))) = some r := by rw [if_neg (show ¬ (false = true) by decide)] at H; exact H
            clear H
            have H := H1
            clear H1
            by_cases c39 : a1_0 = 2
            ·rw [if_pos c39] at H
             exact absurd H (by simp)
            ·rw [if_neg c39] at H
             have c39b0 : (a1_0 == 2) = false := beq_eq_false_iff_ne.mpr c39
             have c39b1 : (a1_0 != 2) = true := bne_iff_ne.mpr c39
             by_cases c40 : a1_0 = 3
             ·rw [if_pos c40] at H
              exact absurd H (by simp)
             ·rw [if_neg c40] at H
              have c40b0 : (a1_0 == 3) = false := beq_eq_false_iff_ne.mpr c40
              have c40b1 : (a1_0 != 3) = true := bne_iff_ne.mpr c40
              by_cases c41 : a1_0 = 4
              ·rw [if_pos c41] at H
               exact absurd H (by simp)
              ·rw [if_neg c41] at H
               have c41b0 : (a1_0 == 4) = false := beq_eq_false_iff_ne.mpr c41
               have c41b1 : (a1_0 != 4) = true := bne_iff_ne.mpr c41
               replace H := Option.bind_eq_some_iff.mp H
               obtain ⟨t315, A420, H⟩ := H
               replace H : (if t315 = true then (if a1_0 = 6 then (leatref8_node.j4 kj31 true a1_0 l1_1 a1_2 a1_3 a1_4 l1_5 a1_6 a1_7 a1_8 a1_9) else (leatref8_node.j4 kj31 (a1_0 == 7) a1_0 l1_1 a1_2 a1_3 a1_4 l1_5 a1_6 a1_7 a1_8 a1_9)) else (none)) = some r := H
               have A42 := Aside0.mk A420
               clear A420
               by_cases c43 : t315 = true
               ·subst c43
                have H1 : (if a1_0 = 6 then (leatref8_node.j4 kj31 true a1_0 l1_1 a1_2 a1_3 a1_4 l1_5 a1_6 a1_7 a1_8 a1_9) else (leatref8_node.j4 kj31 (a1_0 == 7) a1_0 l1_1 a1_2 a1_3 a1_4 l1_5 a1_6 a1_7 a1_8 a1_9)) = some r := by rw [if_pos rfl] at H; exact H
                clear H
                have H := H1
                clear H1
                have HC44 := Aside0.mk H
                clear H
                have hnb45 := NB310_309.out
                have hnc45 := NB309_310.out
                have hcz46_0 : wc.cell? ⟨gb310, 0, none⟩ = some (.int .i64 a1_0) := (blk_cell BK310.out 0).trans rfl
                have hcz46_1 : wc.cell? ⟨gb310, 1, none⟩ = some (.slice A1_1 l1_1.length c1_1) := (blk_cell BK310.out 1).trans rfl
                have hcz46_2 : wc.cell? ⟨gb310, 2, none⟩ = some (.int .i64 a1_2) := (blk_cell BK310.out 2).trans rfl
                have hcz46_3 : wc.cell? ⟨gb310, 3, none⟩ = some (.int .i64 a1_3) := (blk_cell BK310.out 3).trans rfl
                have hcz46_4 : wc.cell? ⟨gb310, 4, none⟩ = some (.int .i64 a1_4) := (blk_cell BK310.out 4).trans rfl
                have hcz46_5 : wc.cell? ⟨gb310, 5, none⟩ = some (.slice A1_5 l1_5.length c1_5) := (blk_cell BK310.out 5).trans rfl
                have hcz46_6 : wc.cell? ⟨gb310, 6, none⟩ = some (.int .i64 a1_6) := (blk_cell BK310.out 6).trans rfl
                have hcz46_7 : wc.cell? ⟨gb310, 7, none⟩ = some (.int .i64 a1_7) := (blk_cell BK310.out 7).trans rfl
                have hcz46_8 : wc.cell? ⟨gb310, 8, none⟩ = some (.int .i64 a1_8) := (blk_cell BK310.out 8).trans rfl
                have hcz46_9 : wc.cell? ⟨gb310, 9, none⟩ = some (.int .i64 a1_9) := (blk_cell BK310.out 9).trans rfl
                have hfz46_0 := blk_frozen BK310.out 0
                have hfz46_1 := blk_frozen BK310.out 1
                have hfz46_2 := blk_frozen BK310.out 2
                have hfz46_3 := blk_frozen BK310.out 3
                have hfz46_4 := blk_frozen BK310.out 4
                have hfz46_5 := blk_frozen BK310.out 5
                have hfz46_6 := blk_frozen BK310.out 6
                have hfz46_7 := blk_frozen BK310.out 7
                have hfz46_8 := blk_frozen BK310.out 8
                have hfz46_9 := blk_frozen BK310.out 9
                go_upto_region 25 with (first | (go_at_call 41; (with_reducible refine (leatref7_Zero.calls a1_3 a1_4 _ _ l1_5 true _ ?side1 ?side2 A42.out).mono ?_); (case side1 => repeat (first | exact (Kd.C_below HR1_5.out HB.out) | (with_reducible refine Kd.C_alloc ?_ _) | (with_reducible refine Kd.C_drewN ?_ _) | (with_reducible refine Kd.C_drew ?_))); (case side2 => exact HC1_5.out); rintro e w47 ⟨rfl, hb⟩; have n0_ := Aside0.mk (blk_below (g := gb309) (o := .cells #[.slice A0_0 l0_0.length c0_0] 24 (0, 0)) (by (with_reducible repeat (first | refine blk_drewN ?_ _ | refine blk_drew ?_ | refine blk_alloc ?_ _)); exact BK309.out) hb); have n1_ := Aside0.mk (blk_below (g := gb310) (o := .cells #[.int .i64 a1_0, .slice A1_1 l1_1.length c1_1, .int .i64 a1_2, .int .i64 a1_3, .int .i64 a1_4, .slice A1_5 l1_5.length c1_5, .int .i64 a1_6, .int .i64 a1_7, .int .i64 a1_8, .int .i64 a1_9] 38 (0, 0)) (by (with_reducible repeat (first | refine blk_drewN ?_ _ | refine blk_drew ?_ | refine blk_alloc ?_ _)); exact BK310.out) hb); have n2_ := Aside0.mk (below_step (by repeat (first | (with_reducible first | exact HB.out | apply below_alloc | apply pw_below_drewN | apply below_drew1 | refine below_set ?_ GE309.out | refine below_set ?_ GE310.out) | exact HB.out)) hb); clear BK309; clear BK310; clear HB; have BK309 := n0_; have BK310 := n1_; have HB := n2_; clear n0_ n1_ n2_; (try clear hb); (try clear hb2); (try clear hk); (try clear hi)))
                repeat (go_quiet (first | (go_at_call 41; (with_reducible refine (leatref7_Zero.calls a1_3 a1_4 _ _ l1_5 true _ ?side1 ?side2 A42.out).mono ?_); (case side1 => repeat (first | exact (Kd.C_below HR1_5.out HB.out) | (with_reducible refine Kd.C_alloc ?_ _) | (with_reducible refine Kd.C_drewN ?_ _) | (with_reducible refine Kd.C_drew ?_))); (case side2 => exact HC1_5.out); rintro e w47 ⟨rfl, hb⟩; have n0_ := Aside0.mk (blk_below (g := gb309) (o := .cells #[.slice A0_0 l0_0.length c0_0] 24 (0, 0)) (by (with_reducible repeat (first | refine blk_drewN ?_ _ | refine blk_drew ?_ | refine blk_alloc ?_ _)); exact BK309.out) hb); have n1_ := Aside0.mk (blk_below (g := gb310) (o := .cells #[.int .i64 a1_0, .slice A1_1 l1_1.length c1_1, .int .i64 a1_2, .int .i64 a1_3, .int .i64 a1_4, .slice A1_5 l1_5.length c1_5, .int .i64 a1_6, .int .i64 a1_7, .int .i64 a1_8, .int .i64 a1_9] 38 (0, 0)) (by (with_reducible repeat (first | refine blk_drewN ?_ _ | refine blk_drew ?_ | refine blk_alloc ?_ _)); exact BK310.out) hb); have n2_ := Aside0.mk (below_step (by repeat (first | (with_reducible first | exact HB.out | apply below_alloc | apply pw_below_drewN | apply below_drew1 | refine below_set ?_ GE309.out | refine below_set ?_ GE310.out) | exact HB.out)) hb); clear BK309; clear BK310; clear HB; have BK309 := n0_; have BK310 := n1_; have HB := n2_; clear n0_ n1_ n2_; (try clear hb); (try clear hb2); (try clear hk); (try clear hi))); go_upto_region 25 with (first | (go_at_call 41; (with_reducible refine (leatref7_Zero.calls a1_3 a1_4 _ _ l1_5 true _ ?side1 ?side2 A42.out).mono ?_); (case side1 => repeat (first | exact (Kd.C_below HR1_5.out HB.out) | (with_reducible refine Kd.C_alloc ?_ _) | (with_reducible refine Kd.C_drewN ?_ _) | (with_reducible refine Kd.C_drew ?_))); (case side2 => exact HC1_5.out); rintro e w47 ⟨rfl, hb⟩; have n0_ := Aside0.mk (blk_below (g := gb309) (o := .cells #[.slice A0_0 l0_0.length c0_0] 24 (0, 0)) (by (with_reducible repeat (first | refine blk_drewN ?_ _ | refine blk_drew ?_ | refine blk_alloc ?_ _)); exact BK309.out) hb); have n1_ := Aside0.mk (blk_below (g := gb310) (o := .cells #[.int .i64 a1_0, .slice A1_1 l1_1.length c1_1, .int .i64 a1_2, .int .i64 a1_3, .int .i64 a1_4, .slice A1_5 l1_5.length c1_5, .int .i64 a1_6, .int .i64 a1_7, .int .i64 a1_8, .int .i64 a1_9] 38 (0, 0)) (by (with_reducible repeat (first | refine blk_drewN ?_ _ | refine blk_drew ?_ | refine blk_alloc ?_ _)); exact BK310.out) hb); have n2_ := Aside0.mk (below_step (by repeat (first | (with_reducible first | exact HB.out | apply below_alloc | apply pw_below_drewN | apply below_drew1 | refine below_set ?_ GE309.out | refine below_set ?_ GE310.out) | exact HB.out)) hb); clear BK309; clear BK310; clear HB; have BK309 := n0_; have BK310 := n1_; have HB := n2_; clear n0_ n1_ n2_; (try clear hb); (try clear hb2); (try clear hk); (try clear hi))))
                (try simp only [Act.put, List.setIfInBounds_toArray, List.set_cons_zero, List.set_cons_succ])
                go_cut [106] (fun v106 wc => ∃ (kq : Nat) (x106_43 : Bool), v106 = .bool x106_43 ∧ Aside0 (leatref8_node.j4 kq x106_43 a1_0 l1_1 a1_2 a1_3 a1_4 l1_5 a1_6 a1_7 a1_8 a1_9 = some r) ∧ Aside0 (kq ≤ kj31) ∧ Aside0 (wc.heap[gb309]? = some (.cells #[(.slice A0_0 l0_0.length c0_0)] 24 (0, 0))) ∧ Aside0 (wc.heap[gb310]? = some (.cells #[.int .i64 a1_0, (.slice A1_1 l1_1.length c1_1), .int .i64 a1_2, .int .i64 a1_3, .int .i64 a1_4, (.slice A1_5 l1_5.length c1_5), .int .i64 a1_6, .int .i64 a1_7, .int .i64 a1_8, .int .i64 a1_9] 38 (0, 0))) ∧ Aside0 (Below w.heap.size w wc))
                case first =>
                 have H := HC44.out
                 clear HC44
                 by_cases c48 : a1_0 = 6
                 ·rw [if_pos c48] at H
                  have c48b0 : (a1_0 == 6) = true := beq_iff_eq.mpr c48
                  have c48b1 : (a1_0 != 6) = false := bne_eq_false_iff_eq.mpr c48
                  clear c48
                  (first | rw [c48b0] | (simp only [i64_w, i32_w]; rw [c48b0]) | skip)
                  as_aux_lemma =>
                   have H' := Aside0.mk H
                   clear H
                   have hnb49 := NB310_309.out
                   have hnc49 := NB309_310.out
                   have hcz50_0 : w47.cell? ⟨gb310, 0, none⟩ = some (.int .i64 a1_0) := (blk_cell BK310.out 0).trans rfl
                   have hcz50_1 : w47.cell? ⟨gb310, 1, none⟩ = some (.slice A1_1 l1_1.length c1_1) := (blk_cell BK310.out 1).trans rfl
                   have hcz50_2 : w47.cell? ⟨gb310, 2, none⟩ = some (.int .i64 a1_2) := (blk_cell BK310.out 2).trans rfl
                   have hcz50_3 : w47.cell? ⟨gb310, 3, none⟩ = some (.int .i64 a1_3) := (blk_cell BK310.out 3).trans rfl
                   have hcz50_4 : w47.cell? ⟨gb310, 4, none⟩ = some (.int .i64 a1_4) := (blk_cell BK310.out 4).trans rfl
                   have hcz50_5 : w47.cell? ⟨gb310, 5, none⟩ = some (.slice A1_5 l1_5.length c1_5) := (blk_cell BK310.out 5).trans rfl
                   have hcz50_6 : w47.cell? ⟨gb310, 6, none⟩ = some (.int .i64 a1_6) := (blk_cell BK310.out 6).trans rfl
                   have hcz50_7 : w47.cell? ⟨gb310, 7, none⟩ = some (.int .i64 a1_7) := (blk_cell BK310.out 7).trans rfl
                   have hcz50_8 : w47.cell? ⟨gb310, 8, none⟩ = some (.int .i64 a1_8) := (blk_cell BK310.out 8).trans rfl
                   have hcz50_9 : w47.cell? ⟨gb310, 9, none⟩ = some (.int .i64 a1_9) := (blk_cell BK310.out 9).trans rfl
                   have hfz50_0 := blk_frozen BK310.out 0
                   have hfz50_1 := blk_frozen BK310.out 1
                   have hfz50_2 := blk_frozen BK310.out 2
                   have hfz50_3 := blk_frozen BK310.out 3
                   have hfz50_4 := blk_frozen BK310.out 4
                   have hfz50_5 := blk_frozen BK310.out 5
                   have hfz50_6 := blk_frozen BK310.out 6
                   have hfz50_7 := blk_frozen BK310.out 7
                   have hfz50_8 := blk_frozen BK310.out 8
                   have hfz50_9 := blk_frozen BK310.out 9
                   go_wp2
                   repeat (go_quiet (fail); try go_wp2)
                   go_meet
                   case rel => exact ⟨_, (true), (by first | rfl | (simp; done) | (simp [*]; done)), H', ⟨by have := HJ2.out; have := HJ11.out; have := HK3.out; have := HJ31.out; first | omega | exact Nat.le_refl _⟩, ⟨by (with_reducible repeat (first | refine blk_drewN ?_ _ | refine blk_drew ?_ | refine blk_alloc ?_ _)); exact BK309.out⟩, ⟨by (with_reducible repeat (first | refine blk_drewN ?_ _ | refine blk_drew ?_ | refine blk_alloc ?_ _)); exact BK310.out⟩, ⟨by repeat (first | (with_reducible first | exact HB.out | apply below_alloc | apply pw_below_drewN | apply below_drew1 | refine below_set ?_ GE309.out | refine below_set ?_ GE310.out) | exact HB.out)⟩⟩
                 ·rw [if_neg c48] at H
                  have c48b0 : (a1_0 == 6) = false := beq_eq_false_iff_ne.mpr c48
                  have c48b1 : (a1_0 != 6) = true := bne_iff_ne.mpr c48
                  (first | rw [c48b0] | (simp only [i64_w, i32_w]; rw [c48b0]) | skip)
                  as_aux_lemma =>
                   have H' := Aside0.mk H
                   clear H
                   have hnb51 := NB310_309.out
                   have hnc51 := NB309_310.out
                   have hcz52_0 : w47.cell? ⟨gb310, 0, none⟩ = some (.int .i64 a1_0) := (blk_cell BK310.out 0).trans rfl
                   have hcz52_1 : w47.cell? ⟨gb310, 1, none⟩ = some (.slice A1_1 l1_1.length c1_1) := (blk_cell BK310.out 1).trans rfl
                   have hcz52_2 : w47.cell? ⟨gb310, 2, none⟩ = some (.int .i64 a1_2) := (blk_cell BK310.out 2).trans rfl
                   have hcz52_3 : w47.cell? ⟨gb310, 3, none⟩ = some (.int .i64 a1_3) := (blk_cell BK310.out 3).trans rfl
                   have hcz52_4 : w47.cell? ⟨gb310, 4, none⟩ = some (.int .i64 a1_4) := (blk_cell BK310.out 4).trans rfl
                   have hcz52_5 : w47.cell? ⟨gb310, 5, none⟩ = some (.slice A1_5 l1_5.length c1_5) := (blk_cell BK310.out 5).trans rfl
                   have hcz52_6 : w47.cell? ⟨gb310, 6, none⟩ = some (.int .i64 a1_6) := (blk_cell BK310.out 6).trans rfl
                   have hcz52_7 : w47.cell? ⟨gb310, 7, none⟩ = some (.int .i64 a1_7) := (blk_cell BK310.out 7).trans rfl
                   have hcz52_8 : w47.cell? ⟨gb310, 8, none⟩ = some (.int .i64 a1_8) := (blk_cell BK310.out 8).trans rfl
                   have hcz52_9 : w47.cell? ⟨gb310, 9, none⟩ = some (.int .i64 a1_9) := (blk_cell BK310.out 9).trans rfl
                   have hfz52_0 := blk_frozen BK310.out 0
                   have hfz52_1 := blk_frozen BK310.out 1
                   have hfz52_2 := blk_frozen BK310.out 2
                   have hfz52_3 := blk_frozen BK310.out 3
                   have hfz52_4 := blk_frozen BK310.out 4
                   have hfz52_5 := blk_frozen BK310.out 5
                   have hfz52_6 := blk_frozen BK310.out 6
                   have hfz52_7 := blk_frozen BK310.out 7
                   have hfz52_8 := blk_frozen BK310.out 8
                   have hfz52_9 := blk_frozen BK310.out 9
                   go_wp2
                   repeat (go_quiet (fail); try go_wp2)
                   go_meet
                   case rel => exact ⟨_, ((a1_0 == 7)), (by first | rfl | (simp; done) | (simp [*]; done)), H', ⟨by have := HJ2.out; have := HJ11.out; have := HK3.out; have := HJ31.out; first | omega | exact Nat.le_refl _⟩, ⟨by (with_reducible repeat (first | refine blk_drewN ?_ _ | refine blk_drew ?_ | refine blk_alloc ?_ _)); exact BK309.out⟩, ⟨by (with_reducible repeat (first | refine blk_drewN ?_ _ | refine blk_drew ?_ | refine blk_alloc ?_ _)); exact BK310.out⟩, ⟨by repeat (first | (with_reducible first | exact HB.out | apply below_alloc | apply pw_below_drewN | apply below_drew1 | refine below_set ?_ GE309.out | refine below_set ?_ GE310.out) | exact HB.out)⟩⟩
                case rest =>
                 clear HC44
                 try clear c1; try clear c2; try clear p2; try clear c3; try clear p3; try clear q3; try clear hx3; try clear c4; try clear c5; try clear c6; try clear c6b0; try clear p6; try clear c7; try clear c9; try clear c11; try clear c13; try clear c15; try clear c15b0; try clear c15b1; try clear c16; try clear c16b0; try clear c16b1; try clear c17; try clear c17b0; try clear c17b1; try clear c18; try clear c18b0; try clear c18b1; try clear c19; try clear c19b0; try clear c19b1; try clear c20; try clear c20b0; try clear c20b1; try clear c21; try clear c21b0; try clear c22; try clear c22b0; try clear c23; try clear c23b0; try clear c24; try clear c24b0; try clear c25; try clear c25b0; try clear c26; try clear c26b0; try clear c27; try clear c27b0; try clear c28; try clear c28b0; try clear c28b1; try clear c29; try clear c31; try clear p31; try clear q31; try clear hx31; try clear c33; try clear c33b0; try clear c34; try clear c36; try clear c38; try clear c39; try clear c39b0; try clear c39b1; try clear c40; try clear c40b0; try clear c40b1; try clear c41; try clear c41b0; try clear c41b1; try clear c43; try clear c45; try clear c48; try clear c48b0; try clear c48b1; try clear c49; try clear c51; try clear hcz10_0; try clear hcz10_1; try clear hcz10_2; try clear hcz10_3; try clear hcz10_4; try clear hcz10_5; try clear hcz10_6; try clear hcz10_7; try clear hcz10_8; try clear hcz10_9; try clear hcz14_0; try clear hcz14_1; try clear hcz14_2; try clear hcz14_3; try clear hcz14_4; try clear hcz14_5; try clear hcz14_6; try clear hcz14_7; try clear hcz14_8; try clear hcz14_9; try clear hcz30_0; try clear hcz30_1; try clear hcz30_2; try clear hcz30_3; try clear hcz30_4; try clear hcz30_5; try clear hcz30_6; try clear hcz30_7; try clear hcz30_8; try clear hcz30_9; try clear hcz31_0; try clear hcz35_0; try clear hcz35_1; try clear hcz35_2; try clear hcz35_3; try clear hcz35_4; try clear hcz35_5; try clear hcz35_6; try clear hcz35_7; try clear hcz35_8; try clear hcz35_9; try clear hcz37_0; try clear hcz37_1; try clear hcz37_2; try clear hcz37_3; try clear hcz37_4; try clear hcz37_5; try clear hcz37_6; try clear hcz37_7; try clear hcz37_8; try clear hcz37_9; try clear hcz46_0; try clear hcz46_1; try clear hcz46_2; try clear hcz46_3; try clear hcz46_4; try clear hcz46_5; try clear hcz46_6; try clear hcz46_7; try clear hcz46_8; try clear hcz46_9; try clear hcz50_0; try clear hcz50_1; try clear hcz50_2; try clear hcz50_3; try clear hcz50_4; try clear hcz50_5; try clear hcz50_6; try clear hcz50_7; try clear hcz50_8; try clear hcz50_9; try clear hcz52_0; try clear hcz52_1; try clear hcz52_2; try clear hcz52_3; try clear hcz52_4; try clear hcz52_5; try clear hcz52_6; try clear hcz52_7; try clear hcz52_8; try clear hcz52_9; try clear hcz8_0; try clear hcz8_1; try clear hcz8_2; try clear hcz8_3; try clear hcz8_4; try clear hcz8_5; try clear hcz8_6; try clear hcz8_7; try clear hcz8_8; try clear hcz8_9; try clear hfz10_0; try clear hfz10_1; try clear hfz10_2; try clear hfz10_3; try clear hfz10_4; try clear hfz10_5; try clear hfz10_6; try clear hfz10_7; try clear hfz10_8; try clear hfz10_9; try clear hfz14_0; try clear hfz14_1; try clear hfz14_2; try clear hfz14_3; try clear hfz14_4; try clear hfz14_5; try clear hfz14_6; try clear hfz14_7; try clear hfz14_8; try clear hfz14_9; try clear hfz30_0; try clear hfz30_1; try clear hfz30_2; try clear hfz30_3; try clear hfz30_4; try clear hfz30_5; try clear hfz30_6; try clear hfz30_7; try clear hfz30_8; try clear hfz30_9; try clear hfz31_0; try clear hfz35_0; try clear hfz35_1; try clear hfz35_2; try clear hfz35_3; try clear hfz35_4; try clear hfz35_5; try clear hfz35_6; try clear hfz35_7; try clear hfz35_8; try clear hfz35_9; try clear hfz37_0; try clear hfz37_1; try clear hfz37_2; try clear hfz37_3; try clear hfz37_4; try clear hfz37_5; try clear hfz37_6; try clear hfz37_7; try clear hfz37_8; try clear hfz37_9; try clear hfz46_0; try clear hfz46_1; try clear hfz46_2; try clear hfz46_3
                 try clear hfz46_4; try clear hfz46_5; try clear hfz46_6; try clear hfz46_7; try clear hfz46_8; try clear hfz46_9; try clear hfz50_0; try clear hfz50_1; try clear hfz50_2; try clear hfz50_3; try clear hfz50_4; try clear hfz50_5; try clear hfz50_6; try clear hfz50_7; try clear hfz50_8; try clear hfz50_9; try clear hfz52_0; try clear hfz52_1; try clear hfz52_2; try clear hfz52_3; try clear hfz52_4; try clear hfz52_5; try clear hfz52_6; try clear hfz52_7; try clear hfz52_8; try clear hfz52_9; try clear hfz8_0; try clear hfz8_1; try clear hfz8_2; try clear hfz8_3; try clear hfz8_4; try clear hfz8_5; try clear hfz8_6; try clear hfz8_7; try clear hfz8_8; try clear hfz8_9; try clear hx311_0; try clear hx312_0; try clear hx313_0; try clear hx314_0; try clear hx314_1; try clear hx314_2; try clear hx314_3; try clear hx314_4; try clear hx314_5; try clear hx314_6; try clear hx314_7; try clear hx314_8; try clear hx314_9; try clear p2; try clear p3; try clear p31; try clear p311; try clear p312; try clear p313; try clear p314; try clear p6; try clear q3; try clear q31; try clear q311; try clear q312; try clear q313; try clear q314
                 obtain ⟨kq, x106_43, rfl, HA, HJ43, BK309, BK310, HB⟩ := hcut
                 cases kq with
                 | zero => exact absurd HA.out (by simp [leatref8_node.j4])
                 | succ kj43 =>
                  have H := HA.out
                  clear HA
                  simp only [leatref8_node.j4] at H
                  have HC53 := Aside0.mk H
                  clear H
                  go_upto_if 106 with (fail)
                  repeat (go_quiet (fail); go_upto_if 106 with (fail))
                  go_cut [] (fun wc => ∃ (kq : Nat), Aside0 (leatref8_node.j5 kq a1_0 l1_1 a1_2 a1_3 a1_4 l1_5 a1_6 a1_7 a1_8 a1_9 = some r) ∧ Aside0 (kq ≤ kj43) ∧ Aside0 (wc.heap[gb309]? = some (.cells #[(.slice A0_0 l0_0.length c0_0)] 24 (0, 0))) ∧ Aside0 (wc.heap[gb310]? = some (.cells #[.int .i64 a1_0, (.slice A1_1 l1_1.length c1_1), .int .i64 a1_2, .int .i64 a1_3, .int .i64 a1_4, (.slice A1_5 l1_5.length c1_5), .int .i64 a1_6, .int .i64 a1_7, .int .i64 a1_8, .int .i64 a1_9] 38 (0, 0))) ∧ Aside0 (Below w.heap.size w wc))
                  case first =>
                   have H := HC53.out
                   clear HC53
                   by_cases c54 : x106_43 = true
                   ·subst c54
                    have H1 : (if a1_6 < 1 then (none) else (if a1_6 > 5 then (none) else (leatref8_node.j5 kj43 a1_0 l1_1 a1_2 a1_3 a1_4 l1_5 a1_6 a1_7 a1_8 a1_9))) = some r := by rw [if_pos rfl] at H; exact H
                    clear H
                    have H := H1
                    clear H1
                    by_cases c55 : a1_6 < 1
                    ·rw [if_pos c55] at H
                     exact absurd H (by simp)
                    ·rw [if_neg c55] at H
                     have c55b0 : decide (a1_6 < 1) = false := decide_eq_false c55
                     clear c55
                     (first | rw [c55b0] | (simp only [i64_w, i32_w]; rw [c55b0]) | skip)
                     by_cases c56 : a1_6 > 5
                     ·rw [if_pos c56] at H
                      exact absurd H (by simp)
                     ·rw [if_neg c56] at H
                      have c56b0 : decide (5 < a1_6) = false := decide_eq_false c56
                      clear c56
                      as_aux_lemma =>
                       have H' := Aside0.mk H
                       clear H
                       have hnb57 := NB310_309.out
                       have hnc57 := NB309_310.out
                       have hcz58_0 : wc.cell? ⟨gb310, 0, none⟩ = some (.int .i64 a1_0) := (blk_cell BK310.out 0).trans rfl
                       have hcz58_1 : wc.cell? ⟨gb310, 1, none⟩ = some (.slice A1_1 l1_1.length c1_1) := (blk_cell BK310.out 1).trans rfl
                       have hcz58_2 : wc.cell? ⟨gb310, 2, none⟩ = some (.int .i64 a1_2) := (blk_cell BK310.out 2).trans rfl
                       have hcz58_3 : wc.cell? ⟨gb310, 3, none⟩ = some (.int .i64 a1_3) := (blk_cell BK310.out 3).trans rfl
                       have hcz58_4 : wc.cell? ⟨gb310, 4, none⟩ = some (.int .i64 a1_4) := (blk_cell BK310.out 4).trans rfl
                       have hcz58_5 : wc.cell? ⟨gb310, 5, none⟩ = some (.slice A1_5 l1_5.length c1_5) := (blk_cell BK310.out 5).trans rfl
                       have hcz58_6 : wc.cell? ⟨gb310, 6, none⟩ = some (.int .i64 a1_6) := (blk_cell BK310.out 6).trans rfl
                       have hcz58_7 : wc.cell? ⟨gb310, 7, none⟩ = some (.int .i64 a1_7) := (blk_cell BK310.out 7).trans rfl
                       have hcz58_8 : wc.cell? ⟨gb310, 8, none⟩ = some (.int .i64 a1_8) := (blk_cell BK310.out 8).trans rfl
                       have hcz58_9 : wc.cell? ⟨gb310, 9, none⟩ = some (.int .i64 a1_9) := (blk_cell BK310.out 9).trans rfl
                       have hfz58_0 := blk_frozen BK310.out 0
                       have hfz58_1 := blk_frozen BK310.out 1
                       have hfz58_2 := blk_frozen BK310.out 2
                       have hfz58_3 := blk_frozen BK310.out 3
                       have hfz58_4 := blk_frozen BK310.out 4
                       have hfz58_5 := blk_frozen BK310.out 5
                       have hfz58_6 := blk_frozen BK310.out 6
                       have hfz58_7 := blk_frozen BK310.out 7
                       have hfz58_8 := blk_frozen BK310.out 8
                       have hfz58_9 := blk_frozen BK310.out 9
                       go_wp2
                       repeat (go_quiet (fail); try go_wp2)
                       go_meet
                       case rel => exact ⟨_, H', ⟨by have := HJ2.out; have := HJ11.out; have := HK3.out; have := HJ31.out; have := HJ43.out; first | omega | exact Nat.le_refl _⟩, ⟨by (with_reducible repeat (first | refine blk_drewN ?_ _ | refine blk_drew ?_ | refine blk_alloc ?_ _)); exact BK309.out⟩, ⟨by (with_reducible repeat (first | refine blk_drewN ?_ _ | refine blk_drew ?_ | refine blk_alloc ?_ _)); exact BK310.out⟩, ⟨by repeat (first | (with_reducible first | exact HB.out | apply below_alloc | apply pw_below_drewN | apply below_drew1 | refine below_set ?_ GE309.out | refine below_set ?_ GE310.out) | exact HB.out)⟩⟩
                   ·replace c54 := Bool.eq_false_iff.mpr c54
                    subst c54
                    have H1 : (if a1_6 = 0 then (leatref8_node.j5 kj43 a1_0 l1_1 a1_2 a1_3 a1_4 l1_5 a1_6 a1_7 a1_8 a1_9) else (none)) = some r := by rw [if_neg (show ¬ (false = true) by decide)] at H; exact H
                    clear H
                    have H := H1
                    clear H1
                    by_cases c59 : a1_6 = 0
                    ·rw [if_pos c59] at H
                     have c59b0 : (a1_6 == 0) = true := beq_iff_eq.mpr c59
                     have c59b1 : (a1_6 != 0) = false := bne_eq_false_iff_eq.mpr c59
                     clear c59
                     as_aux_lemma =>
                      have H' := Aside0.mk H
                      clear H
                      have hnb60 := NB310_309.out
                      have hnc60 := NB309_310.out
                      have hcz61_0 : wc.cell? ⟨gb310, 0, none⟩ = some (.int .i64 a1_0) := (blk_cell BK310.out 0).trans rfl
                      have hcz61_1 : wc.cell? ⟨gb310, 1, none⟩ = some (.slice A1_1 l1_1.length c1_1) := (blk_cell BK310.out 1).trans rfl
                      have hcz61_2 : wc.cell? ⟨gb310, 2, none⟩ = some (.int .i64 a1_2) := (blk_cell BK310.out 2).trans rfl
                      have hcz61_3 : wc.cell? ⟨gb310, 3, none⟩ = some (.int .i64 a1_3) := (blk_cell BK310.out 3).trans rfl
                      have hcz61_4 : wc.cell? ⟨gb310, 4, none⟩ = some (.int .i64 a1_4) := (blk_cell BK310.out 4).trans rfl
                      have hcz61_5 : wc.cell? ⟨gb310, 5, none⟩ = some (.slice A1_5 l1_5.length c1_5) := (blk_cell BK310.out 5).trans rfl
                      have hcz61_6 : wc.cell? ⟨gb310, 6, none⟩ = some (.int .i64 a1_6) := (blk_cell BK310.out 6).trans rfl
                      have hcz61_7 : wc.cell? ⟨gb310, 7, none⟩ = some (.int .i64 a1_7) := (blk_cell BK310.out 7).trans rfl
                      have hcz61_8 : wc.cell? ⟨gb310, 8, none⟩ = some (.int .i64 a1_8) := (blk_cell BK310.out 8).trans rfl
                      have hcz61_9 : wc.cell? ⟨gb310, 9, none⟩ = some (.int .i64 a1_9) := (blk_cell BK310.out 9).trans rfl
                      have hfz61_0 := blk_frozen BK310.out 0
                      have hfz61_1 := blk_frozen BK310.out 1
                      have hfz61_2 := blk_frozen BK310.out 2
                      have hfz61_3 := blk_frozen BK310.out 3
                      have hfz61_4 := blk_frozen BK310.out 4
                      have hfz61_5 := blk_frozen BK310.out 5
                      have hfz61_6 := blk_frozen BK310.out 6
                      have hfz61_7 := blk_frozen BK310.out 7
                      have hfz61_8 := blk_frozen BK310.out 8
                      have hfz61_9 := blk_frozen BK310.out 9
                      go_wp2
                      repeat (go_quiet (fail); try go_wp2)
                      go_meet
                      case rel => exact ⟨_, H', ⟨by have := HJ2.out; have := HJ11.out; have := HK3.out; have := HJ31.out; have := HJ43.out; first | omega | exact Nat.le_refl _⟩, ⟨by (with_reducible repeat (first | refine blk_drewN ?_ _ | refine blk_drew ?_ | refine blk_alloc ?_ _)); exact BK309.out⟩, ⟨by (with_reducible repeat (first | refine blk_drewN ?_ _ | refine blk_drew ?_ | refine blk_alloc ?_ _)); exact BK310.out⟩, ⟨by repeat (first | (with_reducible first | exact HB.out | apply below_alloc | apply pw_below_drewN | apply below_drew1 | refine below_set ?_ GE309.out | refine below_set ?_ GE310.out) | exact HB.out)⟩⟩
                    ·rw [if_neg c59] at H
                     exact absurd H (by simp)
                  case rest =>
                   clear HC53
                   try clear c1; try clear c2; try clear p2; try clear c3; try clear p3; try clear q3; try clear hx3; try clear c4; try clear c5; try clear c6; try clear c6b0; try clear p6; try clear c7; try clear c9; try clear c11; try clear c13; try clear c15; try clear c15b0; try clear c15b1; try clear c16; try clear c16b0; try clear c16b1; try clear c17; try clear c17b0; try clear c17b1; try clear c18; try clear c18b0; try clear c18b1; try clear c19; try clear c19b0; try clear c19b1; try clear c20; try clear c20b0; try clear c20b1; try clear c21; try clear c21b0; try clear c22; try clear c22b0; try clear c23; try clear c23b0; try clear c24; try clear c24b0; try clear c25; try clear c25b0; try clear c26; try clear c26b0; try clear c27; try clear c27b0; try clear c28; try clear c28b0; try clear c28b1; try clear c29; try clear c31; try clear p31; try clear q31; try clear hx31; try clear c33; try clear c33b0; try clear c34; try clear c36; try clear c38; try clear c39; try clear c39b0; try clear c39b1; try clear c40; try clear c40b0; try clear c40b1; try clear c41; try clear c41b0; try clear c41b1; try clear c43; try clear c45; try clear c48; try clear c48b0; try clear c48b1; try clear c49; try clear c51; try clear c54; try clear c55; try clear c55b0; try clear c56; try clear c56b0; try clear c57; try clear c59; try clear c59b0; try clear c59b1; try clear c60; try clear hcz10_0; try clear hcz10_1; try clear hcz10_2; try clear hcz10_3; try clear hcz10_4; try clear hcz10_5; try clear hcz10_6; try clear hcz10_7; try clear hcz10_8; try clear hcz10_9; try clear hcz14_0; try clear hcz14_1; try clear hcz14_2; try clear hcz14_3; try clear hcz14_4; try clear hcz14_5; try clear hcz14_6; try clear hcz14_7; try clear hcz14_8; try clear hcz14_9; try clear hcz30_0; try clear hcz30_1; try clear hcz30_2; try clear hcz30_3; try clear hcz30_4; try clear hcz30_5; try clear hcz30_6; try clear hcz30_7; try clear hcz30_8; try clear hcz30_9; try clear hcz31_0; try clear hcz35_0; try clear hcz35_1; try clear hcz35_2; try clear hcz35_3; try clear hcz35_4; try clear hcz35_5; try clear hcz35_6; try clear hcz35_7; try clear hcz35_8; try clear hcz35_9; try clear hcz37_0; try clear hcz37_1; try clear hcz37_2; try clear hcz37_3; try clear hcz37_4; try clear hcz37_5; try clear hcz37_6; try clear hcz37_7; try clear hcz37_8; try clear hcz37_9; try clear hcz46_0; try clear hcz46_1; try clear hcz46_2; try clear hcz46_3; try clear hcz46_4; try clear hcz46_5; try clear hcz46_6; try clear hcz46_7; try clear hcz46_8; try clear hcz46_9; try clear hcz50_0; try clear hcz50_1; try clear hcz50_2; try clear hcz50_3; try clear hcz50_4; try clear hcz50_5; try clear hcz50_6; try clear hcz50_7; try clear hcz50_8; try clear hcz50_9; try clear hcz52_0; try clear hcz52_1; try clear hcz52_2; try clear hcz52_3; try clear hcz52_4; try clear hcz52_5; try clear hcz52_6; try clear hcz52_7; try clear hcz52_8; try clear hcz52_9; try clear hcz58_0; try clear hcz58_1; try clear hcz58_2; try clear hcz58_3; try clear hcz58_4; try clear hcz58_5; try clear hcz58_6; try clear hcz58_7; try clear hcz58_8; try clear hcz58_9; try clear hcz61_0; try clear hcz61_1; try clear hcz61_2; try clear hcz61_3; try clear hcz61_4; try clear hcz61_5; try clear hcz61_6; try clear hcz61_7; try clear hcz61_8; try clear hcz61_9; try clear hcz8_0; try clear hcz8_1; try clear hcz8_2; try clear hcz8_3; try clear hcz8_4; try clear hcz8_5; try clear hcz8_6; try clear hcz8_7; try clear hcz8_8; try clear hcz8_9; try clear hfz10_0; try clear hfz10_1; try clear hfz10_2; try clear hfz10_3; try clear hfz10_4; try clear hfz10_5; try clear hfz10_6; try clear hfz10_7; try clear hfz10_8; try clear hfz10_9; try clear hfz14_0; try clear hfz14_1; try clear hfz14_2; try clear hfz14_3; try clear hfz14_4; try clear hfz14_5; try clear hfz14_6; try clear hfz14_7; try clear hfz14_8; try clear hfz14_9; try clear hfz30_0; try clear hfz30_1; try clear hfz30_2; try clear hfz30_3; try clear hfz30_4; try clear hfz30_5; try clear hfz30_6
                   try clear hfz30_7; try clear hfz30_8; try clear hfz30_9; try clear hfz31_0; try clear hfz35_0; try clear hfz35_1; try clear hfz35_2; try clear hfz35_3; try clear hfz35_4; try clear hfz35_5; try clear hfz35_6; try clear hfz35_7; try clear hfz35_8; try clear hfz35_9; try clear hfz37_0; try clear hfz37_1; try clear hfz37_2; try clear hfz37_3; try clear hfz37_4; try clear hfz37_5; try clear hfz37_6; try clear hfz37_7; try clear hfz37_8; try clear hfz37_9; try clear hfz46_0; try clear hfz46_1; try clear hfz46_2; try clear hfz46_3; try clear hfz46_4; try clear hfz46_5; try clear hfz46_6; try clear hfz46_7; try clear hfz46_8; try clear hfz46_9; try clear hfz50_0; try clear hfz50_1; try clear hfz50_2; try clear hfz50_3; try clear hfz50_4; try clear hfz50_5; try clear hfz50_6; try clear hfz50_7; try clear hfz50_8; try clear hfz50_9; try clear hfz52_0; try clear hfz52_1; try clear hfz52_2; try clear hfz52_3; try clear hfz52_4; try clear hfz52_5; try clear hfz52_6; try clear hfz52_7; try clear hfz52_8; try clear hfz52_9; try clear hfz58_0; try clear hfz58_1; try clear hfz58_2; try clear hfz58_3; try clear hfz58_4; try clear hfz58_5; try clear hfz58_6; try clear hfz58_7; try clear hfz58_8; try clear hfz58_9; try clear hfz61_0; try clear hfz61_1; try clear hfz61_2; try clear hfz61_3; try clear hfz61_4; try clear hfz61_5; try clear hfz61_6; try clear hfz61_7; try clear hfz61_8; try clear hfz61_9; try clear hfz8_0; try clear hfz8_1; try clear hfz8_2; try clear hfz8_3; try clear hfz8_4; try clear hfz8_5; try clear hfz8_6; try clear hfz8_7; try clear hfz8_8; try clear hfz8_9; try clear hx311_0; try clear hx312_0; try clear hx313_0; try clear hx314_0; try clear hx314_1; try clear hx314_2; try clear hx314_3; try clear hx314_4; try clear hx314_5; try clear hx314_6; try clear hx314_7; try clear hx314_8; try clear hx314_9; try clear p2; try clear p3; try clear p31; try clear p311; try clear p312; try clear p313; try clear p314; try clear p6; try clear q3; try clear q31; try clear q311; try clear q312; try clear q313; try clear q314
                   obtain ⟨kq, HA, HJ52, BK309, BK310, HB⟩ := hcut
                   cases kq with
                   | zero => exact absurd HA.out (by simp [leatref8_node.j5])
                   | succ kj52 =>
                    have H := HA.out
                    clear HA
                    simp only [leatref8_node.j5] at H
                    by_cases c62 : a1_0 = 7
                    ·rw [if_pos c62] at H
                     have c62b0 : (a1_0 == 7) = true := beq_iff_eq.mpr c62
                     have c62b1 : (a1_0 != 7) = false := bne_eq_false_iff_eq.mpr c62
                     clear c62
                     have HC63 := Aside0.mk H
                     clear H
                     have hnb64 := NB310_309.out
                     have hnc64 := NB309_310.out
                     have hcz65_0 : wc.cell? ⟨gb310, 0, none⟩ = some (.int .i64 a1_0) := (blk_cell BK310.out 0).trans rfl
                     have hcz65_1 : wc.cell? ⟨gb310, 1, none⟩ = some (.slice A1_1 l1_1.length c1_1) := (blk_cell BK310.out 1).trans rfl
                     have hcz65_2 : wc.cell? ⟨gb310, 2, none⟩ = some (.int .i64 a1_2) := (blk_cell BK310.out 2).trans rfl
                     have hcz65_3 : wc.cell? ⟨gb310, 3, none⟩ = some (.int .i64 a1_3) := (blk_cell BK310.out 3).trans rfl
                     have hcz65_4 : wc.cell? ⟨gb310, 4, none⟩ = some (.int .i64 a1_4) := (blk_cell BK310.out 4).trans rfl
                     have hcz65_5 : wc.cell? ⟨gb310, 5, none⟩ = some (.slice A1_5 l1_5.length c1_5) := (blk_cell BK310.out 5).trans rfl
                     have hcz65_6 : wc.cell? ⟨gb310, 6, none⟩ = some (.int .i64 a1_6) := (blk_cell BK310.out 6).trans rfl
                     have hcz65_7 : wc.cell? ⟨gb310, 7, none⟩ = some (.int .i64 a1_7) := (blk_cell BK310.out 7).trans rfl
                     have hcz65_8 : wc.cell? ⟨gb310, 8, none⟩ = some (.int .i64 a1_8) := (blk_cell BK310.out 8).trans rfl
                     have hcz65_9 : wc.cell? ⟨gb310, 9, none⟩ = some (.int .i64 a1_9) := (blk_cell BK310.out 9).trans rfl
                     have hfz65_0 := blk_frozen BK310.out 0
                     have hfz65_1 := blk_frozen BK310.out 1
                     have hfz65_2 := blk_frozen BK310.out 2
                     have hfz65_3 := blk_frozen BK310.out 3
                     have hfz65_4 := blk_frozen BK310.out 4
                     have hfz65_5 := blk_frozen BK310.out 5
                     have hfz65_6 := blk_frozen BK310.out 6
                     have hfz65_7 := blk_frozen BK310.out 7
                     have hfz65_8 := blk_frozen BK310.out 8
                     have hfz65_9 := blk_frozen BK310.out 9
                     go_upto_region 35 with (first | ((with_reducible refine gate_dst (N := 7) rfl ?_); (try (refine gate_guard (by rfl) ?_; dsimp only)); refine box_event ?hg (N := 7) ?hd (cs := #[.int .i64 0, .int .i64 0, .int .i64 0]) (t := 36) ?hr ?_; (case hd => rfl); (case hg => rfl); (case hr => first | (go_simp; done) | (go_simp; rfl)); intro gb316 hg w66 hbox hb; have n0_ := Aside0.mk (blk_below (g := gb309) (o := .cells #[.slice A0_0 l0_0.length c0_0] 24 (0, 0)) (by (with_reducible repeat (first | refine blk_drewN ?_ _ | refine blk_drew ?_ | refine blk_alloc ?_ _)); exact BK309.out) hb); have n1_ := Aside0.mk (blk_below (g := gb310) (o := .cells #[.int .i64 a1_0, .slice A1_1 l1_1.length c1_1, .int .i64 a1_2, .int .i64 a1_3, .int .i64 a1_4, .slice A1_5 l1_5.length c1_5, .int .i64 a1_6, .int .i64 a1_7, .int .i64 a1_8, .int .i64 a1_9] 38 (0, 0)) (by (with_reducible repeat (first | refine blk_drewN ?_ _ | refine blk_drew ?_ | refine blk_alloc ?_ _)); exact BK310.out) hb); have n2_ := Aside0.mk (below_step (by repeat (first | (with_reducible first | exact HB.out | apply below_alloc | apply pw_below_drewN | apply below_drew1 | refine below_set ?_ GE309.out | refine below_set ?_ GE310.out) | exact HB.out)) hb); have n3_ := Aside0.mk (hbox); have n4_ := Aside0.mk ((by rw [hg]; exact (below_size (by repeat (first | (with_reducible first | exact HB.out | apply below_alloc | apply pw_below_drewN | apply below_drew1 | refine below_set ?_ GE309.out | refine below_set ?_ GE310.out) | exact HB.out))) : w.heap.size ≤ gb316)); have n5_ := Aside0.mk ((by rw [hg]; exact (below_size (by repeat (first | (with_reducible first | exact HB.out | apply below_alloc | apply pw_below_drewN | apply below_drew1 | refine below_set ?_ GE309.out | refine below_set ?_ GE310.out) | exact HB.out))) : w.heap.size ≤ gb316)); have n6_ := Aside0.mk ((by rw [hg]; exact Nat.ne_of_lt (blk_lt (g := gb309) (o := .cells #[.slice A0_0 l0_0.length c0_0] 24 (0, 0)) (by (with_reducible repeat (first | refine blk_drewN ?_ _ | refine blk_drew ?_ | refine blk_alloc ?_ _)); exact BK309.out)) : gb309 ≠ gb316)); have n7_ := Aside0.mk ((by rw [hg]; exact Nat.ne_of_gt (blk_lt (g := gb309) (o := .cells #[.slice A0_0 l0_0.length c0_0] 24 (0, 0)) (by (with_reducible repeat (first | refine blk_drewN ?_ _ | refine blk_drew ?_ | refine blk_alloc ?_ _)); exact BK309.out)) : gb316 ≠ gb309)); have n8_ := Aside0.mk ((by rw [hg]; exact Nat.ne_of_lt (blk_lt (g := gb310) (o := .cells #[.int .i64 a1_0, .slice A1_1 l1_1.length c1_1, .int .i64 a1_2, .int .i64 a1_3, .int .i64 a1_4, .slice A1_5 l1_5.length c1_5, .int .i64 a1_6, .int .i64 a1_7, .int .i64 a1_8, .int .i64 a1_9] 38 (0, 0)) (by (with_reducible repeat (first | refine blk_drewN ?_ _ | refine blk_drew ?_ | refine blk_alloc ?_ _)); exact BK310.out)) : gb310 ≠ gb316)); have n9_ := Aside0.mk ((by rw [hg]; exact Nat.ne_of_gt (blk_lt (g := gb310) (o := .cells #[.int .i64 a1_0, .slice A1_1 l1_1.length c1_1, .int .i64 a1_2, .int .i64 a1_3, .int .i64 a1_4, .slice A1_5 l1_5.length c1_5, .int .i64 a1_6, .int .i64 a1_7, .int .i64 a1_8, .int .i64 a1_9] 38 (0, 0)) (by (with_reducible repeat (first | refine blk_drewN ?_ _ | refine blk_drew ?_ | refine blk_alloc ?_ _)); exact BK310.out)) : gb316 ≠ gb310)); clear BK309; clear BK310; clear HB; have BK309 := n0_; have BK310 := n1_; have HB := n2_; have BK316 := n3_; have GW316 := n4_; have GE316 := n5_; have NB309_316 := n6_; have NB316_309 := n7_; have NB310_316 := n8_; have NB316_310 := n9_; clear n0_ n1_ n2_ n3_ n4_ n5_ n6_ n7_ n8_ n9_; clear hb hbox hg; have hnb67 := NB316_309.out; have hnc67 := NB309_316.out; have hnb68 := NB316_310.out; have hnc68 := NB310_316.out; have hcz69_0 : w66.cell? ⟨gb316, 0, none⟩ = some (.int .i64 0) := (blk_cell BK316.out 0).trans rfl; have hcz69_1 : w66.cell? ⟨gb316, 1, none⟩ = some (.int .i64 0) := (blk_cell BK316.out 1).trans rfl; have hcz69_2 : w66.cell? ⟨gb316, 2, none⟩ = some (.int .i64 0) := (blk_cell BK316.out 2).trans rfl; have hfz69_0 := blk_frozen BK316.out 0; have hfz69_1 := blk_frozen BK316.out 1; have hfz69_2 := blk_frozen BK316.out 2))
                     repeat (go_quiet (first | ((with_reducible refine gate_dst (N := 7) rfl ?_); (try (refine gate_guard (by rfl) ?_; dsimp only)); refine box_event ?hg (N := 7) ?hd (cs := #[.int .i64 0, .int .i64 0, .int .i64 0]) (t := 36) ?hr ?_; (case hd => rfl); (case hg => rfl); (case hr => first | (go_simp; done) | (go_simp; rfl)); intro gb316 hg w66 hbox hb; have n0_ := Aside0.mk (blk_below (g := gb309) (o := .cells #[.slice A0_0 l0_0.length c0_0] 24 (0, 0)) (by (with_reducible repeat (first | refine blk_drewN ?_ _ | refine blk_drew ?_ | refine blk_alloc ?_ _)); exact BK309.out) hb); have n1_ := Aside0.mk (blk_below (g := gb310) (o := .cells #[.int .i64 a1_0, .slice A1_1 l1_1.length c1_1, .int .i64 a1_2, .int .i64 a1_3, .int .i64 a1_4, .slice A1_5 l1_5.length c1_5, .int .i64 a1_6, .int .i64 a1_7, .int .i64 a1_8, .int .i64 a1_9] 38 (0, 0)) (by (with_reducible repeat (first | refine blk_drewN ?_ _ | refine blk_drew ?_ | refine blk_alloc ?_ _)); exact BK310.out) hb); have n2_ := Aside0.mk (below_step (by repeat (first | (with_reducible first | exact HB.out | apply below_alloc | apply pw_below_drewN | apply below_drew1 | refine below_set ?_ GE309.out | refine below_set ?_ GE310.out) | exact HB.out)) hb); have n3_ := Aside0.mk (hbox); have n4_ := Aside0.mk ((by rw [hg]; exact (below_size (by repeat (first | (with_reducible first | exact HB.out | apply below_alloc | apply pw_below_drewN | apply below_drew1 | refine below_set ?_ GE309.out | refine below_set ?_ GE310.out) | exact HB.out))) : w.heap.size ≤ gb316)); have n5_ := Aside0.mk ((by rw [hg]; exact (below_size (by repeat (first | (with_reducible first | exact HB.out | apply below_alloc | apply pw_below_drewN | apply below_drew1 | refine below_set ?_ GE309.out | refine below_set ?_ GE310.out) | exact HB.out))) : w.heap.size ≤ gb316)); have n6_ := Aside0.mk ((by rw [hg]; exact Nat.ne_of_lt (blk_lt (g := gb309) (o := .cells #[.slice A0_0 l0_0.length c0_0] 24 (0, 0)) (by (with_reducible repeat (first | refine blk_drewN ?_ _ | refine blk_drew ?_ | refine blk_alloc ?_ _)); exact BK309.out)) : gb309 ≠ gb316)); have n7_ := Aside0.mk ((by rw [hg]; exact Nat.ne_of_gt (blk_lt (g := gb309) (o := .cells #[.slice A0_0 l0_0.length c0_0] 24 (0, 0)) (by (with_reducible repeat (first | refine blk_drewN ?_ _ | refine blk_drew ?_ | refine blk_alloc ?_ _)); exact BK309.out)) : gb316 ≠ gb309)); have n8_ := Aside0.mk ((by rw [hg]; exact Nat.ne_of_lt (blk_lt (g := gb310) (o := .cells #[.int .i64 a1_0, .slice A1_1 l1_1.length c1_1, .int .i64 a1_2, .int .i64 a1_3, .int .i64 a1_4, .slice A1_5 l1_5.length c1_5, .int .i64 a1_6, .int .i64 a1_7, .int .i64 a1_8, .int .i64 a1_9] 38 (0, 0)) (by (with_reducible repeat (first | refine blk_drewN ?_ _ | refine blk_drew ?_ | refine blk_alloc ?_ _)); exact BK310.out)) : gb310 ≠ gb316)); have n9_ := Aside0.mk ((by rw [hg]; exact Nat.ne_of_gt (blk_lt (g := gb310) (o := .cells #[.int .i64 a1_0, .slice A1_1 l1_1.length c1_1, .int .i64 a1_2, .int .i64 a1_3, .int .i64 a1_4, .slice A1_5 l1_5.length c1_5, .int .i64 a1_6, .int .i64 a1_7, .int .i64 a1_8, .int .i64 a1_9] 38 (0, 0)) (by (with_reducible repeat (first | refine blk_drewN ?_ _ | refine blk_drew ?_ | refine blk_alloc ?_ _)); exact BK310.out)) : gb316 ≠ gb310)); clear BK309; clear BK310; clear HB; have BK309 := n0_; have BK310 := n1_; have HB := n2_; have BK316 := n3_; have GW316 := n4_; have GE316 := n5_; have NB309_316 := n6_; have NB316_309 := n7_; have NB310_316 := n8_; have NB316_310 := n9_; clear n0_ n1_ n2_ n3_ n4_ n5_ n6_ n7_ n8_ n9_; clear hb hbox hg; have hnb67 := NB316_309.out; have hnc67 := NB309_316.out; have hnb68 := NB316_310.out; have hnc68 := NB310_316.out; have hcz69_0 : w66.cell? ⟨gb316, 0, none⟩ = some (.int .i64 0) := (blk_cell BK316.out 0).trans rfl; have hcz69_1 : w66.cell? ⟨gb316, 1, none⟩ = some (.int .i64 0) := (blk_cell BK316.out 1).trans rfl; have hcz69_2 : w66.cell? ⟨gb316, 2, none⟩ = some (.int .i64 0) := (blk_cell BK316.out 2).trans rfl; have hfz69_0 := blk_frozen BK316.out 0; have hfz69_1 := blk_frozen BK316.out 1; have hfz69_2 := blk_frozen BK316.out 2)); go_upto_region 35 with (first | ((with_reducible refine gate_dst (N := 7) rfl ?_); (try (refine gate_guard (by rfl) ?_; dsimp only)); refine box_event ?hg (N := 7) ?hd (cs := #[.int .i64 0, .int .i64 0, .int .i64 0]) (t := 36) ?hr ?_; (case hd => rfl); (case hg => rfl); (case hr => first | (go_simp; done) | (go_simp; rfl)); intro gb316 hg w66 hbox hb; have n0_ := Aside0.mk (blk_below (g := gb309) (o := .cells #[.slice A0_0 l0_0.length c0_0] 24 (0, 0)) (by (with_reducible repeat (first | refine blk_drewN ?_ _ | refine blk_drew ?_ | refine blk_alloc ?_ _)); exact BK309.out) hb); have n1_ := Aside0.mk (blk_below (g := gb310) (o := .cells #[.int .i64 a1_0, .slice A1_1 l1_1.length c1_1, .int .i64 a1_2, .int .i64 a1_3, .int .i64 a1_4, .slice A1_5 l1_5.length c1_5, .int .i64 a1_6, .int .i64 a1_7, .int .i64 a1_8, .int .i64 a1_9] 38 (0, 0)) (by (with_reducible repeat (first | refine blk_drewN ?_ _ | refine blk_drew ?_ | refine blk_alloc ?_ _)); exact BK310.out) hb); have n2_ := Aside0.mk (below_step (by repeat (first | (with_reducible first | exact HB.out | apply below_alloc | apply pw_below_drewN | apply below_drew1 | refine below_set ?_ GE309.out | refine below_set ?_ GE310.out) | exact HB.out)) hb); have n3_ := Aside0.mk (hbox); have n4_ := Aside0.mk ((by rw [hg]; exact (below_size (by repeat (first | (with_reducible first | exact HB.out | apply below_alloc | apply pw_below_drewN | apply below_drew1 | refine below_set ?_ GE309.out | refine below_set ?_ GE310.out) | exact HB.out))) : w.heap.size ≤ gb316)); have n5_ := Aside0.mk ((by rw [hg]; exact (below_size (by repeat (first | (with_reducible first | exact HB.out | apply below_alloc | apply pw_below_drewN | apply below_drew1 | refine below_set ?_ GE309.out | refine below_set ?_ GE310.out) | exact HB.out))) : w.heap.size ≤ gb316)); have n6_ := Aside0.mk ((by rw [hg]; exact Nat.ne_of_lt (blk_lt (g := gb309) (o := .cells #[.slice A0_0 l0_0.length c0_0] 24 (0, 0)) (by (with_reducible repeat (first | refine blk_drewN ?_ _ | refine blk_drew ?_ | refine blk_alloc ?_ _)); exact BK309.out)) : gb309 ≠ gb316)); have n7_ := Aside0.mk ((by rw [hg]; exact Nat.ne_of_gt (blk_lt (g := gb309) (o := .cells #[.slice A0_0 l0_0.length c0_0] 24 (0, 0)) (by (with_reducible repeat (first | refine blk_drewN ?_ _ | refine blk_drew ?_ | refine blk_alloc ?_ _)); exact BK309.out)) : gb316 ≠ gb309)); have n8_ := Aside0.mk ((by rw [hg]; exact Nat.ne_of_lt (blk_lt (g := gb310) (o := .cells #[.int .i64 a1_0, .slice A1_1 l1_1.length c1_1, .int .i64 a1_2, .int .i64 a1_3, .int .i64 a1_4, .slice A1_5 l1_5.length c1_5, .int .i64 a1_6, .int .i64 a1_7, .int .i64 a1_8, .int .i64 a1_9] 38 (0, 0)) (by (with_reducible repeat (first | refine blk_drewN ?_ _ | refine blk_drew ?_ | refine blk_alloc ?_ _)); exact BK310.out)) : gb310 ≠ gb316)); have n9_ := Aside0.mk ((by rw [hg]; exact Nat.ne_of_gt (blk_lt (g := gb310) (o := .cells #[.int .i64 a1_0, .slice A1_1 l1_1.length c1_1, .int .i64 a1_2, .int .i64 a1_3, .int .i64 a1_4, .slice A1_5 l1_5.length c1_5, .int .i64 a1_6, .int .i64 a1_7, .int .i64 a1_8, .int .i64 a1_9] 38 (0, 0)) (by (with_reducible repeat (first | refine blk_drewN ?_ _ | refine blk_drew ?_ | refine blk_alloc ?_ _)); exact BK310.out)) : gb316 ≠ gb310)); clear BK309; clear BK310; clear HB; have BK309 := n0_; have BK310 := n1_; have HB := n2_; have BK316 := n3_; have GW316 := n4_; have GE316 := n5_; have NB309_316 := n6_; have NB316_309 := n7_; have NB310_316 := n8_; have NB316_310 := n9_; clear n0_ n1_ n2_ n3_ n4_ n5_ n6_ n7_ n8_ n9_; clear hb hbox hg; have hnb67 := NB316_309.out; have hnc67 := NB309_316.out; have hnb68 := NB316_310.out; have hnc68 := NB310_316.out; have hcz69_0 : w66.cell? ⟨gb316, 0, none⟩ = some (.int .i64 0) := (blk_cell BK316.out 0).trans rfl; have hcz69_1 : w66.cell? ⟨gb316, 1, none⟩ = some (.int .i64 0) := (blk_cell BK316.out 1).trans rfl; have hcz69_2 : w66.cell? ⟨gb316, 2, none⟩ = some (.int .i64 0) := (blk_cell BK316.out 2).trans rfl; have hfz69_0 := blk_frozen BK316.out 0; have hfz69_1 := blk_frozen BK316.out 1; have hfz69_2 := blk_frozen BK316.out 2)))
                     (try simp only [Act.put, List.setIfInBounds_toArray, List.set_cons_zero, List.set_cons_succ])
                     go_cut [144] (fun v144 wc => ∃ (kq : Nat) (x144_62 : Bool), v144 = .bool x144_62 ∧ Aside0 (leatref8_node.j6 kq x144_62 a1_7 a1_8 a1_9 = some r) ∧ Aside0 (kq ≤ kj52) ∧ Aside0 (wc.heap[gb309]? = some (.cells #[(.slice A0_0 l0_0.length c0_0)] 24 (0, 0))) ∧ Aside0 (wc.heap[gb310]? = some (.cells #[.int .i64 a1_0, (.slice A1_1 l1_1.length c1_1), .int .i64 a1_2, .int .i64 a1_3, .int .i64 a1_4, (.slice A1_5 l1_5.length c1_5), .int .i64 a1_6, .int .i64 a1_7, .int .i64 a1_8, .int .i64 a1_9] 38 (0, 0))) ∧ Aside0 (wc.heap[gb316]? = some (.cells #[.int .i64 a1_7, .int .i64 a1_8, .int .i64 a1_9] 36 (0, 0))) ∧ Aside0 (Below w.heap.size w wc))
                     case first =>
                      have H := HC63.out
                      clear HC63
                      by_cases c70 : a1_7 < 1
                      ·rw [if_pos c70] at H
                       have c70b0 : decide (a1_7 < 1) = true := decide_eq_true c70
                       clear c70
                       (first | rw [c70b0] | (simp only [i64_w, i32_w]; rw [c70b0]) | skip)
                       as_aux_lemma =>
                        have H' := Aside0.mk H
                        clear H
                        have hnb71 := NB316_309.out
                        have hnc71 := NB309_316.out
                        have hnb72 := NB316_310.out
                        have hnc72 := NB310_316.out
                        have hcz73_0 : w66.cell? ⟨gb316, 0, none⟩ = some (.int .i64 0) := (blk_cell BK316.out 0).trans rfl
                        have hcz73_1 : w66.cell? ⟨gb316, 1, none⟩ = some (.int .i64 0) := (blk_cell BK316.out 1).trans rfl
                        have hcz73_2 : w66.cell? ⟨gb316, 2, none⟩ = some (.int .i64 0) := (blk_cell BK316.out 2).trans rfl
                        have hfz73_0 := blk_frozen BK316.out 0
                        have hfz73_1 := blk_frozen BK316.out 1
                        have hfz73_2 := blk_frozen BK316.out 2
                        go_wp2
                        repeat (go_quiet (fail); try go_wp2)
                        go_meet
                        case rel => exact ⟨_, (true), (by first | rfl | (simp; done) | (simp [*]; done)), H', ⟨by have := HJ2.out; have := HJ11.out; have := HK3.out; have := HJ31.out; have := HJ43.out; have := HJ52.out; first | omega | exact Nat.le_refl _⟩, ⟨by (with_reducible repeat (first | refine blk_drewN ?_ _ | refine blk_drew ?_ | refine blk_alloc ?_ _)); refine blk_far ?_ NB309_316.out _; (with_reducible repeat (first | refine blk_drewN ?_ _ | refine blk_drew ?_ | refine blk_alloc ?_ _)); refine blk_far ?_ NB309_316.out _; (with_reducible repeat (first | refine blk_drewN ?_ _ | refine blk_drew ?_ | refine blk_alloc ?_ _)); refine blk_far ?_ NB309_316.out _; (with_reducible repeat (first | refine blk_drewN ?_ _ | refine blk_drew ?_ | refine blk_alloc ?_ _)); exact BK309.out⟩, ⟨by (with_reducible repeat (first | refine blk_drewN ?_ _ | refine blk_drew ?_ | refine blk_alloc ?_ _)); refine blk_far ?_ NB310_316.out _; (with_reducible repeat (first | refine blk_drewN ?_ _ | refine blk_drew ?_ | refine blk_alloc ?_ _)); refine blk_far ?_ NB310_316.out _; (with_reducible repeat (first | refine blk_drewN ?_ _ | refine blk_drew ?_ | refine blk_alloc ?_ _)); refine blk_far ?_ NB310_316.out _; (with_reducible repeat (first | refine blk_drewN ?_ _ | refine blk_drew ?_ | refine blk_alloc ?_ _)); exact BK310.out⟩, ⟨by (with_reducible repeat (first | refine blk_drewN ?_ _ | refine blk_drew ?_ | refine blk_alloc ?_ _)); refine blk_put (cs := #[.int .i64 a1_7, .int .i64 a1_8, .int .i64 0]) ?_ 2 _ rfl; (with_reducible repeat (first | refine blk_drewN ?_ _ | refine blk_drew ?_ | refine blk_alloc ?_ _)); refine blk_put (cs := #[.int .i64 a1_7, .int .i64 0, .int .i64 0]) ?_ 1 _ rfl; (with_reducible repeat (first | refine blk_drewN ?_ _ | refine blk_drew ?_ | refine blk_alloc ?_ _)); refine blk_put (cs := #[.int .i64 0, .int .i64 0, .int .i64 0]) ?_ 0 _ rfl; (with_reducible repeat (first | refine blk_drewN ?_ _ | refine blk_drew ?_ | refine blk_alloc ?_ _)); exact BK316.out⟩, ⟨by repeat (first | (with_reducible first | exact HB.out | apply below_alloc | apply pw_below_drewN | apply below_drew1 | refine below_set ?_ GE309.out | refine below_set ?_ GE310.out | refine below_set ?_ GE316.out) | exact HB.out)⟩⟩
                      ·rw [if_neg c70] at H
                       have c70b0 : decide (a1_7 < 1) = false := decide_eq_false c70
                       clear c70
                       (first | rw [c70b0] | (simp only [i64_w, i32_w]; rw [c70b0]) | skip)
                       by_cases c74 : a1_7 > 3
                       ·rw [if_pos c74] at H
                        have c74b0 : decide (3 < a1_7) = true := decide_eq_true c74
                        clear c74
                        as_aux_lemma =>
                         have H' := Aside0.mk H
                         clear H
                         have hnb75 := NB316_309.out
                         have hnc75 := NB309_316.out
                         have hnb76 := NB316_310.out
                         have hnc76 := NB310_316.out
                         have hcz77_0 : w66.cell? ⟨gb316, 0, none⟩ = some (.int .i64 0) := (blk_cell BK316.out 0).trans rfl
                         have hcz77_1 : w66.cell? ⟨gb316, 1, none⟩ = some (.int .i64 0) := (blk_cell BK316.out 1).trans rfl
                         have hcz77_2 : w66.cell? ⟨gb316, 2, none⟩ = some (.int .i64 0) := (blk_cell BK316.out 2).trans rfl
                         have hfz77_0 := blk_frozen BK316.out 0
                         have hfz77_1 := blk_frozen BK316.out 1
                         have hfz77_2 := blk_frozen BK316.out 2
                         go_wp2
                         repeat (go_quiet (fail); try go_wp2)
                         go_meet
                         case rel => exact ⟨_, (true), (by first | rfl | (simp; done) | (simp [*]; done)), H', ⟨by have := HJ2.out; have := HJ11.out; have := HK3.out; have := HJ31.out; have := HJ43.out; have := HJ52.out; first | omega | exact Nat.le_refl _⟩, ⟨by (with_reducible repeat (first | refine blk_drewN ?_ _ | refine blk_drew ?_ | refine blk_alloc ?_ _)); refine blk_far ?_ NB309_316.out _; (with_reducible repeat (first | refine blk_drewN ?_ _ | refine blk_drew ?_ | refine blk_alloc ?_ _)); refine blk_far ?_ NB309_316.out _; (with_reducible repeat (first | refine blk_drewN ?_ _ | refine blk_drew ?_ | refine blk_alloc ?_ _)); refine blk_far ?_ NB309_316.out _; (with_reducible repeat (first | refine blk_drewN ?_ _ | refine blk_drew ?_ | refine blk_alloc ?_ _)); exact BK309.out⟩, ⟨by (with_reducible repeat (first | refine blk_drewN ?_ _ | refine blk_drew ?_ | refine blk_alloc ?_ _)); refine blk_far ?_ NB310_316.out _; (with_reducible repeat (first | refine blk_drewN ?_ _ | refine blk_drew ?_ | refine blk_alloc ?_ _)); refine blk_far ?_ NB310_316.out _; (with_reducible repeat (first | refine blk_drewN ?_ _ | refine blk_drew ?_ | refine blk_alloc ?_ _)); refine blk_far ?_ NB310_316.out _; (with_reducible repeat (first | refine blk_drewN ?_ _ | refine blk_drew ?_ | refine blk_alloc ?_ _)); exact BK310.out⟩, ⟨by (with_reducible repeat (first | refine blk_drewN ?_ _ | refine blk_drew ?_ | refine blk_alloc ?_ _)); refine blk_put (cs := #[.int .i64 a1_7, .int .i64 a1_8, .int .i64 0]) ?_ 2 _ rfl; (with_reducible repeat (first | refine blk_drewN ?_ _ | refine blk_drew ?_ | refine blk_alloc ?_ _)); refine blk_put (cs := #[.int .i64 a1_7, .int .i64 0, .int .i64 0]) ?_ 1 _ rfl; (with_reducible repeat (first | refine blk_drewN ?_ _ | refine blk_drew ?_ | refine blk_alloc ?_ _)); refine blk_put (cs := #[.int .i64 0, .int .i64 0, .int .i64 0]) ?_ 0 _ rfl; (with_reducible repeat (first | refine blk_drewN ?_ _ | refine blk_drew ?_ | refine blk_alloc ?_ _)); exact BK316.out⟩, ⟨by repeat (first | (with_reducible first | exact HB.out | apply below_alloc | apply pw_below_drewN | apply below_drew1 | refine below_set ?_ GE309.out | refine below_set ?_ GE310.out | refine below_set ?_ GE316.out) | exact HB.out)⟩⟩
                       ·rw [if_neg c74] at H
                        have c74b0 : decide (3 < a1_7) = false := decide_eq_false c74
                        clear c74
                        by_cases c78 : a1_8 < 1
                        ·rw [if_pos c78] at H
                         have c78b0 : decide (a1_8 < 1) = true := decide_eq_true c78
                         clear c78
                         as_aux_lemma =>
                          have H' := Aside0.mk H
                          clear H
                          have hnb79 := NB316_309.out
                          have hnc79 := NB309_316.out
                          have hnb80 := NB316_310.out
                          have hnc80 := NB310_316.out
                          have hcz81_0 : w66.cell? ⟨gb316, 0, none⟩ = some (.int .i64 0) := (blk_cell BK316.out 0).trans rfl
                          have hcz81_1 : w66.cell? ⟨gb316, 1, none⟩ = some (.int .i64 0) := (blk_cell BK316.out 1).trans rfl
                          have hcz81_2 : w66.cell? ⟨gb316, 2, none⟩ = some (.int .i64 0) := (blk_cell BK316.out 2).trans rfl
                          have hfz81_0 := blk_frozen BK316.out 0
                          have hfz81_1 := blk_frozen BK316.out 1
                          have hfz81_2 := blk_frozen BK316.out 2
                          go_wp2
                          repeat (go_quiet (fail); try go_wp2)
                          go_meet
                          case rel => exact ⟨_, (true), (by first | rfl | (simp; done) | (simp [*]; done)), H', ⟨by have := HJ2.out; have := HJ11.out; have := HK3.out; have := HJ31.out; have := HJ43.out; have := HJ52.out; first | omega | exact Nat.le_refl _⟩, ⟨by (with_reducible repeat (first | refine blk_drewN ?_ _ | refine blk_drew ?_ | refine blk_alloc ?_ _)); refine blk_far ?_ NB309_316.out _; (with_reducible repeat (first | refine blk_drewN ?_ _ | refine blk_drew ?_ | refine blk_alloc ?_ _)); refine blk_far ?_ NB309_316.out _; (with_reducible repeat (first | refine blk_drewN ?_ _ | refine blk_drew ?_ | refine blk_alloc ?_ _)); refine blk_far ?_ NB309_316.out _; (with_reducible repeat (first | refine blk_drewN ?_ _ | refine blk_drew ?_ | refine blk_alloc ?_ _)); exact BK309.out⟩, ⟨by (with_reducible repeat (first | refine blk_drewN ?_ _ | refine blk_drew ?_ | refine blk_alloc ?_ _)); refine blk_far ?_ NB310_316.out _; (with_reducible repeat (first | refine blk_drewN ?_ _ | refine blk_drew ?_ | refine blk_alloc ?_ _)); refine blk_far ?_ NB310_316.out _; (with_reducible repeat (first | refine blk_drewN ?_ _ | refine blk_drew ?_ | refine blk_alloc ?_ _)); refine blk_far ?_ NB310_316.out _; (with_reducible repeat (first | refine blk_drewN ?_ _ | refine blk_drew ?_ | refine blk_alloc ?_ _)); exact BK310.out⟩, ⟨by (with_reducible repeat (first | refine blk_drewN ?_ _ | refine blk_drew ?_ | refine blk_alloc ?_ _)); refine blk_put (cs := #[.int .i64 a1_7, .int .i64 a1_8, .int .i64 0]) ?_ 2 _ rfl; (with_reducible repeat (first | refine blk_drewN ?_ _ | refine blk_drew ?_ | refine blk_alloc ?_ _)); refine blk_put (cs := #[.int .i64 a1_7, .int .i64 0, .int .i64 0]) ?_ 1 _ rfl; (with_reducible repeat (first | refine blk_drewN ?_ _ | refine blk_drew ?_ | refine blk_alloc ?_ _)); refine blk_put (cs := #[.int .i64 0, .int .i64 0, .int .i64 0]) ?_ 0 _ rfl; (with_reducible repeat (first | refine blk_drewN ?_ _ | refine blk_drew ?_ | refine blk_alloc ?_ _)); exact BK316.out⟩, ⟨by repeat (first | (with_reducible first | exact HB.out | apply below_alloc | apply pw_below_drewN | apply below_drew1 | refine below_set ?_ GE309.out | refine below_set ?_ GE310.out | refine below_set ?_ GE316.out) | exact HB.out)⟩⟩
                        ·rw [if_neg c78] at H
                         have c78b0 : decide (a1_8 < 1) = false := decide_eq_false c78
                         clear c78
                         as_aux_lemma =>
                          have H' := Aside0.mk H
                          clear H
                          have hnb82 := NB316_309.out
                          have hnc82 := NB309_316.out
                          have hnb83 := NB316_310.out
                          have hnc83 := NB310_316.out
                          have hcz84_0 : w66.cell? ⟨gb316, 0, none⟩ = some (.int .i64 0) := (blk_cell BK316.out 0).trans rfl
                          have hcz84_1 : w66.cell? ⟨gb316, 1, none⟩ = some (.int .i64 0) := (blk_cell BK316.out 1).trans rfl
                          have hcz84_2 : w66.cell? ⟨gb316, 2, none⟩ = some (.int .i64 0) := (blk_cell BK316.out 2).trans rfl
                          have hfz84_0 := blk_frozen BK316.out 0
                          have hfz84_1 := blk_frozen BK316.out 1
                          have hfz84_2 := blk_frozen BK316.out 2
                          go_wp2
                          repeat (go_quiet (fail); try go_wp2)
                          go_meet
                          case rel => exact ⟨_, (decide (a1_8 > 68719476736)), (by first | rfl | (simp; done) | (simp [*]; done)), H', ⟨by have := HJ2.out; have := HJ11.out; have := HK3.out; have := HJ31.out; have := HJ43.out; have := HJ52.out; first | omega | exact Nat.le_refl _⟩, ⟨by (with_reducible repeat (first | refine blk_drewN ?_ _ | refine blk_drew ?_ | refine blk_alloc ?_ _)); refine blk_far ?_ NB309_316.out _; (with_reducible repeat (first | refine blk_drewN ?_ _ | refine blk_drew ?_ | refine blk_alloc ?_ _)); refine blk_far ?_ NB309_316.out _; (with_reducible repeat (first | refine blk_drewN ?_ _ | refine blk_drew ?_ | refine blk_alloc ?_ _)); refine blk_far ?_ NB309_316.out _; (with_reducible repeat (first | refine blk_drewN ?_ _ | refine blk_drew ?_ | refine blk_alloc ?_ _)); exact BK309.out⟩, ⟨by (with_reducible repeat (first | refine blk_drewN ?_ _ | refine blk_drew ?_ | refine blk_alloc ?_ _)); refine blk_far ?_ NB310_316.out _; (with_reducible repeat (first | refine blk_drewN ?_ _ | refine blk_drew ?_ | refine blk_alloc ?_ _)); refine blk_far ?_ NB310_316.out _; (with_reducible repeat (first | refine blk_drewN ?_ _ | refine blk_drew ?_ | refine blk_alloc ?_ _)); refine blk_far ?_ NB310_316.out _; (with_reducible repeat (first | refine blk_drewN ?_ _ | refine blk_drew ?_ | refine blk_alloc ?_ _)); exact BK310.out⟩, ⟨by (with_reducible repeat (first | refine blk_drewN ?_ _ | refine blk_drew ?_ | refine blk_alloc ?_ _)); refine blk_put (cs := #[.int .i64 a1_7, .int .i64 a1_8, .int .i64 0]) ?_ 2 _ rfl; (with_reducible repeat (first | refine blk_drewN ?_ _ | refine blk_drew ?_ | refine blk_alloc ?_ _)); refine blk_put (cs := #[.int .i64 a1_7, .int .i64 0, .int .i64 0]) ?_ 1 _ rfl; (with_reducible repeat (first | refine blk_drewN ?_ _ | refine blk_drew ?_ | refine blk_alloc ?_ _)); refine blk_put (cs := #[.int .i64 0, .int .i64 0, .int .i64 0]) ?_ 0 _ rfl; (with_reducible repeat (first | refine blk_drewN ?_ _ | refine blk_drew ?_ | refine blk_alloc ?_ _)); exact BK316.out⟩, ⟨by repeat (first | (with_reducible first | exact HB.out | apply below_alloc | apply pw_below_drewN | apply below_drew1 | refine below_set ?_ GE309.out | refine below_set ?_ GE310.out | refine below_set ?_ GE316.out) | exact HB.out)⟩⟩
                     case rest =>
                      clear HC63
                      try clear c1; try clear c2; try clear p2; try clear c3; try clear p3; try clear q3; try clear hx3; try clear c4; try clear c5; try clear c6; try clear c6b0; try clear p6; try clear c7; try clear c8; try clear c9; try clear c11; try clear c13; try clear c15; try clear c15b0; try clear c15b1; try clear c16; try clear c16b0; try clear c16b1; try clear c17; try clear c17b0; try clear c17b1; try clear c18; try clear c18b0; try clear c18b1; try clear c19; try clear c19b0; try clear c19b1; try clear c20; try clear c20b0; try clear c20b1; try clear c21; try clear c21b0; try clear c22; try clear c22b0; try clear c23; try clear c23b0; try clear c24; try clear c24b0; try clear c25; try clear c25b0; try clear c26; try clear c26b0; try clear c27; try clear c27b0; try clear c28; try clear c28b0; try clear c28b1; try clear c29; try clear c31; try clear p31; try clear q31; try clear hx31; try clear c33; try clear c33b0; try clear c34; try clear c36; try clear c38; try clear c39; try clear c39b0; try clear c39b1; try clear c40; try clear c40b0; try clear c40b1; try clear c41; try clear c41b0; try clear c41b1; try clear c43; try clear c45; try clear c48; try clear c48b0; try clear c48b1; try clear c49; try clear c51; try clear c54; try clear c55; try clear c55b0; try clear c56; try clear c56b0; try clear c57; try clear c59; try clear c59b0; try clear c59b1; try clear c60; try clear c62; try clear c62b0; try clear c62b1; try clear c64; try clear c67; try clear c68; try clear c70; try clear c70b0; try clear c71; try clear c72; try clear c74; try clear c74b0; try clear c75; try clear c76; try clear c78; try clear c78b0; try clear c79; try clear c80; try clear c82; try clear c83; try clear hcz10_0; try clear hcz10_1; try clear hcz10_2; try clear hcz10_3; try clear hcz10_4; try clear hcz10_5; try clear hcz10_6; try clear hcz10_7; try clear hcz10_8; try clear hcz10_9; try clear hcz14_0; try clear hcz14_1; try clear hcz14_2; try clear hcz14_3; try clear hcz14_4; try clear hcz14_5; try clear hcz14_6; try clear hcz14_7; try clear hcz14_8; try clear hcz14_9; try clear hcz30_0; try clear hcz30_1; try clear hcz30_2; try clear hcz30_3; try clear hcz30_4; try clear hcz30_5; try clear hcz30_6; try clear hcz30_7; try clear hcz30_8; try clear hcz30_9; try clear hcz31_0; try clear hcz35_0; try clear hcz35_1; try clear hcz35_2; try clear hcz35_3; try clear hcz35_4; try clear hcz35_5; try clear hcz35_6; try clear hcz35_7; try clear hcz35_8; try clear hcz35_9; try clear hcz37_0; try clear hcz37_1; try clear hcz37_2; try clear hcz37_3; try clear hcz37_4; try clear hcz37_5; try clear hcz37_6; try clear hcz37_7; try clear hcz37_8; try clear hcz37_9; try clear hcz46_0; try clear hcz46_1; try clear hcz46_2; try clear hcz46_3; try clear hcz46_4; try clear hcz46_5; try clear hcz46_6; try clear hcz46_7; try clear hcz46_8; try clear hcz46_9; try clear hcz50_0; try clear hcz50_1; try clear hcz50_2; try clear hcz50_3; try clear hcz50_4; try clear hcz50_5; try clear hcz50_6; try clear hcz50_7; try clear hcz50_8; try clear hcz50_9; try clear hcz52_0; try clear hcz52_1; try clear hcz52_2; try clear hcz52_3; try clear hcz52_4; try clear hcz52_5; try clear hcz52_6; try clear hcz52_7; try clear hcz52_8; try clear hcz52_9; try clear hcz58_0; try clear hcz58_1; try clear hcz58_2; try clear hcz58_3; try clear hcz58_4; try clear hcz58_5; try clear hcz58_6; try clear hcz58_7; try clear hcz58_8; try clear hcz58_9; try clear hcz61_0; try clear hcz61_1; try clear hcz61_2; try clear hcz61_3; try clear hcz61_4; try clear hcz61_5; try clear hcz61_6; try clear hcz61_7; try clear hcz61_8; try clear hcz61_9; try clear hcz65_0; try clear hcz65_1; try clear hcz65_2; try clear hcz65_3; try clear hcz65_4; try clear hcz65_5; try clear hcz65_6; try clear hcz65_7; try clear hcz65_8; try clear hcz65_9; try clear hcz69_0; try clear hcz69_1; try clear hcz69_2; try clear hcz73_0; try clear hcz73_1; try clear hcz73_2; try clear hcz77_0; try clear hcz77_1; try clear hcz77_2
                      try clear hcz81_0; try clear hcz81_1; try clear hcz81_2; try clear hcz84_0; try clear hcz84_1; try clear hcz84_2; try clear hcz8_0; try clear hcz8_1; try clear hcz8_2; try clear hcz8_3; try clear hcz8_4; try clear hcz8_5; try clear hcz8_6; try clear hcz8_7; try clear hcz8_8; try clear hcz8_9; try clear hfz10_0; try clear hfz10_1; try clear hfz10_2; try clear hfz10_3; try clear hfz10_4; try clear hfz10_5; try clear hfz10_6; try clear hfz10_7; try clear hfz10_8; try clear hfz10_9; try clear hfz14_0; try clear hfz14_1; try clear hfz14_2; try clear hfz14_3; try clear hfz14_4; try clear hfz14_5; try clear hfz14_6; try clear hfz14_7; try clear hfz14_8; try clear hfz14_9; try clear hfz30_0; try clear hfz30_1; try clear hfz30_2; try clear hfz30_3; try clear hfz30_4; try clear hfz30_5; try clear hfz30_6; try clear hfz30_7; try clear hfz30_8; try clear hfz30_9; try clear hfz31_0; try clear hfz35_0; try clear hfz35_1; try clear hfz35_2; try clear hfz35_3; try clear hfz35_4; try clear hfz35_5; try clear hfz35_6; try clear hfz35_7; try clear hfz35_8; try clear hfz35_9; try clear hfz37_0; try clear hfz37_1; try clear hfz37_2; try clear hfz37_3; try clear hfz37_4; try clear hfz37_5; try clear hfz37_6; try clear hfz37_7; try clear hfz37_8; try clear hfz37_9; try clear hfz46_0; try clear hfz46_1; try clear hfz46_2; try clear hfz46_3; try clear hfz46_4; try clear hfz46_5; try clear hfz46_6; try clear hfz46_7; try clear hfz46_8; try clear hfz46_9; try clear hfz50_0; try clear hfz50_1; try clear hfz50_2; try clear hfz50_3; try clear hfz50_4; try clear hfz50_5; try clear hfz50_6; try clear hfz50_7; try clear hfz50_8; try clear hfz50_9; try clear hfz52_0; try clear hfz52_1; try clear hfz52_2; try clear hfz52_3; try clear hfz52_4; try clear hfz52_5; try clear hfz52_6; try clear hfz52_7; try clear hfz52_8; try clear hfz52_9; try clear hfz58_0; try clear hfz58_1; try clear hfz58_2; try clear hfz58_3; try clear hfz58_4; try clear hfz58_5; try clear hfz58_6; try clear hfz58_7; try clear hfz58_8; try clear hfz58_9; try clear hfz61_0; try clear hfz61_1; try clear hfz61_2; try clear hfz61_3; try clear hfz61_4; try clear hfz61_5; try clear hfz61_6; try clear hfz61_7; try clear hfz61_8; try clear hfz61_9; try clear hfz65_0; try clear hfz65_1; try clear hfz65_2; try clear hfz65_3; try clear hfz65_4; try clear hfz65_5; try clear hfz65_6; try clear hfz65_7; try clear hfz65_8; try clear hfz65_9; try clear hfz69_0; try clear hfz69_1; try clear hfz69_2; try clear hfz73_0; try clear hfz73_1; try clear hfz73_2; try clear hfz77_0; try clear hfz77_1; try clear hfz77_2; try clear hfz81_0; try clear hfz81_1; try clear hfz81_2; try clear hfz84_0; try clear hfz84_1; try clear hfz84_2; try clear hfz8_0; try clear hfz8_1; try clear hfz8_2; try clear hfz8_3; try clear hfz8_4; try clear hfz8_5; try clear hfz8_6; try clear hfz8_7; try clear hfz8_8; try clear hfz8_9; try clear hx311_0; try clear hx312_0; try clear hx313_0; try clear hx314_0; try clear hx314_1; try clear hx314_2; try clear hx314_3; try clear hx314_4; try clear hx314_5; try clear hx314_6; try clear hx314_7; try clear hx314_8; try clear hx314_9; try clear p2; try clear p3; try clear p31; try clear p311; try clear p312; try clear p313; try clear p314; try clear p6; try clear q3; try clear q31; try clear q311; try clear q312; try clear q313; try clear q314
                      obtain ⟨kq, x144_62, rfl, HA, HJ62, BK309, BK310, BK316, HB⟩ := hcut
                      cases kq with
                      | zero => exact absurd HA.out (by simp [leatref8_node.j6])
                      | succ kj62 =>
                       have H := HA.out
                       clear HA
                       simp only [leatref8_node.j6] at H
                       by_cases c85 : x144_62 = true
                       ·subst c85
                        have H1 : (none) = some r := by rw [if_pos rfl] at H; exact H
                        clear H
                        have H := H1
                        clear H1
                        exact absurd H (by simp)
                       ·replace c85 := Bool.eq_false_iff.mpr c85
                        subst c85
                        have H1 : (if a1_7 = 2 then (if a1_9 < 1 then (none) else (if a1_9 > 68719476736 then (none) else (some 0))) else (if a1_9 = 0 then (some 0) else (none))) = some r := by rw [if_neg (show ¬ (false = true) by decide)] at H; exact H
                        clear H
                        have H := H1
                        clear H1
                        by_cases c86 : a1_7 = 2
                        ·rw [if_pos c86] at H
                         have c86b0 : (a1_7 == 2) = true := beq_iff_eq.mpr c86
                         have c86b1 : (a1_7 != 2) = false := bne_eq_false_iff_eq.mpr c86
                         clear c86
                         by_cases c87 : a1_9 < 1
                         ·rw [if_pos c87] at H
                          exact absurd H (by simp)
                         ·rw [if_neg c87] at H
                          have c87b0 : decide (a1_9 < 1) = false := decide_eq_false c87
                          clear c87
                          by_cases c88 : a1_9 > 68719476736
                          ·rw [if_pos c88] at H
                           exact absurd H (by simp)
                          ·rw [if_neg c88] at H
                           have c88b0 : decide (68719476736 < a1_9) = false := decide_eq_false c88
                           clear c88
                           as_aux_lemma =>
                            obtain rfl := Option.some.inj H
                            have hnb89 := NB316_309.out
                            have hnc89 := NB309_316.out
                            have hnb90 := NB316_310.out
                            have hnc90 := NB310_316.out
                            have hcz91_0 : wc.cell? ⟨gb316, 0, none⟩ = some (.int .i64 a1_7) := (blk_cell BK316.out 0).trans rfl
                            have hcz91_1 : wc.cell? ⟨gb316, 1, none⟩ = some (.int .i64 a1_8) := (blk_cell BK316.out 1).trans rfl
                            have hcz91_2 : wc.cell? ⟨gb316, 2, none⟩ = some (.int .i64 a1_9) := (blk_cell BK316.out 2).trans rfl
                            have hfz91_0 := blk_frozen BK316.out 0
                            have hfz91_1 := blk_frozen BK316.out 1
                            have hfz91_2 := blk_frozen BK316.out 2
                            go_wp2
                            repeat (go_quiet (fail); try go_wp2)
                            go_ret
                            exact ⟨by first | rfl | (simp [errW_none, errW_some] <;> rfl) | (simp [*, errW_none, errW_some] <;> rfl), by repeat (first | (with_reducible first | exact HB.out | apply below_alloc | apply pw_below_drewN | apply below_drew1 | refine below_set ?_ GE309.out | refine below_set ?_ GE310.out | refine below_set ?_ GE316.out) | exact HB.out)⟩
                        ·rw [if_neg c86] at H
                         have c86b0 : (a1_7 == 2) = false := beq_eq_false_iff_ne.mpr c86
                         have c86b1 : (a1_7 != 2) = true := bne_iff_ne.mpr c86
                         by_cases c92 : a1_9 = 0
                         ·rw [if_pos c92] at H
                          have c92b0 : (a1_9 == 0) = true := beq_iff_eq.mpr c92
                          have c92b1 : (a1_9 != 0) = false := bne_eq_false_iff_eq.mpr c92
                          clear c92
                          as_aux_lemma =>
                           obtain rfl := Option.some.inj H
                           have hnb93 := NB316_309.out
                           have hnc93 := NB309_316.out
                           have hnb94 := NB316_310.out
                           have hnc94 := NB310_316.out
                           have hcz95_0 : wc.cell? ⟨gb316, 0, none⟩ = some (.int .i64 a1_7) := (blk_cell BK316.out 0).trans rfl
                           have hcz95_1 : wc.cell? ⟨gb316, 1, none⟩ = some (.int .i64 a1_8) := (blk_cell BK316.out 1).trans rfl
                           have hcz95_2 : wc.cell? ⟨gb316, 2, none⟩ = some (.int .i64 a1_9) := (blk_cell BK316.out 2).trans rfl
                           have hfz95_0 := blk_frozen BK316.out 0
                           have hfz95_1 := blk_frozen BK316.out 1
                           have hfz95_2 := blk_frozen BK316.out 2
                           go_wp2
                           repeat (go_quiet (fail); try go_wp2)
                           go_ret
                           exact ⟨by first | rfl | (simp [errW_none, errW_some] <;> rfl) | (simp [*, errW_none, errW_some] <;> rfl), by repeat (first | (with_reducible first | exact HB.out | apply below_alloc | apply pw_below_drewN | apply below_drew1 | refine below_set ?_ GE309.out | refine below_set ?_ GE310.out | refine below_set ?_ GE316.out) | exact HB.out)⟩
                         ·rw [if_neg c92] at H
                          exact absurd H (by simp)
                    ·rw [if_neg c62] at H
                     have c62b0 : (a1_0 == 7) = false := beq_eq_false_iff_ne.mpr c62
                     have c62b1 : (a1_0 != 7) = true := bne_iff_ne.mpr c62
                     by_cases c96 : (!(a1_7 == 0) || (!(a1_8 == 0) || (!(a1_9 == 0)))) = true
                     ·rw [if_pos c96] at H
                      exact absurd H (by simp)
                     ·rw [if_neg c96] at H
                      have c96b0 : (!(a1_7 == 0) || (!(a1_8 == 0) || (!(a1_9 == 0)))) = false := by simpa using c96
                      clear c96
                      as_aux_lemma =>
                       obtain rfl := Option.some.inj H
                       have hnb97 := NB310_309.out
                       have hnc97 := NB309_310.out
                       have hcz98_0 : wc.cell? ⟨gb310, 0, none⟩ = some (.int .i64 a1_0) := (blk_cell BK310.out 0).trans rfl
                       have hcz98_1 : wc.cell? ⟨gb310, 1, none⟩ = some (.slice A1_1 l1_1.length c1_1) := (blk_cell BK310.out 1).trans rfl
                       have hcz98_2 : wc.cell? ⟨gb310, 2, none⟩ = some (.int .i64 a1_2) := (blk_cell BK310.out 2).trans rfl
                       have hcz98_3 : wc.cell? ⟨gb310, 3, none⟩ = some (.int .i64 a1_3) := (blk_cell BK310.out 3).trans rfl
                       have hcz98_4 : wc.cell? ⟨gb310, 4, none⟩ = some (.int .i64 a1_4) := (blk_cell BK310.out 4).trans rfl
                       have hcz98_5 : wc.cell? ⟨gb310, 5, none⟩ = some (.slice A1_5 l1_5.length c1_5) := (blk_cell BK310.out 5).trans rfl
                       have hcz98_6 : wc.cell? ⟨gb310, 6, none⟩ = some (.int .i64 a1_6) := (blk_cell BK310.out 6).trans rfl
                       have hcz98_7 : wc.cell? ⟨gb310, 7, none⟩ = some (.int .i64 a1_7) := (blk_cell BK310.out 7).trans rfl
                       have hcz98_8 : wc.cell? ⟨gb310, 8, none⟩ = some (.int .i64 a1_8) := (blk_cell BK310.out 8).trans rfl
                       have hcz98_9 : wc.cell? ⟨gb310, 9, none⟩ = some (.int .i64 a1_9) := (blk_cell BK310.out 9).trans rfl
                       have hfz98_0 := blk_frozen BK310.out 0
                       have hfz98_1 := blk_frozen BK310.out 1
                       have hfz98_2 := blk_frozen BK310.out 2
                       have hfz98_3 := blk_frozen BK310.out 3
                       have hfz98_4 := blk_frozen BK310.out 4
                       have hfz98_5 := blk_frozen BK310.out 5
                       have hfz98_6 := blk_frozen BK310.out 6
                       have hfz98_7 := blk_frozen BK310.out 7
                       have hfz98_8 := blk_frozen BK310.out 8
                       have hfz98_9 := blk_frozen BK310.out 9
                       go_wp2
                       repeat (go_quiet (fail); try go_wp2)
                       go_ret
                       exact ⟨by first | rfl | (simp [errW_none, errW_some] <;> rfl) | (simp [*, errW_none, errW_some] <;> rfl), by repeat (first | (with_reducible first | exact HB.out | apply below_alloc | apply pw_below_drewN | apply below_drew1 | refine below_set ?_ GE309.out | refine below_set ?_ GE310.out) | exact HB.out)⟩
               ·replace c43 := Bool.eq_false_iff.mpr c43
                subst c43
                have H1 : (none) = some r := by rw [if_neg (show ¬ (false = true) by decide)] at H; exact H
                clear H
                have H := H1
                clear H1
                exact absurd H (by simp)
end Go.Proofs.Ytpbmfdbfimcpjaa.X
