/- Proofs towards the law JobOrder, joined into one text. No conditions beyond those typed. -/
import Derived.Test.YtpbmfdbfimcpjaaMJobOrder0
import Derived.Test.YtpbmfdbfimcpjaaMJobOrder1
import Derived.Test.YtpbmfdbfimcpjaaMJobOrder2
-- written by wip/myprint.py out of the translation
namespace Go.Proofs.Ytpbmfdbfimcpjaa.X
open Go.RowKit Go.Proofs.YtpbmfdbfimcpjaaW.PrintWords Go.Proofs.YtpbmfdbfimcpjaaW.PrintLast Go.Proofs.YtpbmfdbfimcpjaaW.PrintMore
attribute [local go_sem] max2_int min2_int max_two min_two max_three min_three max_four min_four   -- for this text's walks alone
set_option linter.unusedVariables false
set_option linter.unusedSimpArgs false

attribute [local go_sem high] eqA36
/-! ### job_node: function 31 -/
mutual
def job_node.j0 : Nat → Bool → List (S38) → Int → List Int → Int → Int → Int → List (S34) → Int → Int → Int → Int → Option (Int)
  | 0, _, _, _, _, _, _, _, _, _, _, _, _ => none
  | k + 1, x5, x122000, x123000, x123001, x123002, x123003, x123004, x123005, x123006, x123007, x123008, x123009 => if x123000 = 6 then (job_node.j1 k x5 true x122000 x123000 x123001 x123002 x123003 x123004 x123005 x123006 x123007 x123008 x123009) else (job_node.j1 k x5 (x123000 == 7) x122000 x123000 x123001 x123002 x123003 x123004 x123005 x123006 x123007 x123008 x123009)
def job_node.j1 : Nat → Bool → Bool → List (S38) → Int → List Int → Int → Int → Int → List (S34) → Int → Int → Int → Int → Option (Int)
  | 0, _, _, _, _, _, _, _, _, _, _, _, _, _ => none
  | k + 1, x5, x6, x122000, x123000, x123001, x123002, x123003, x123004, x123005, x123006, x123007, x123008, x123009 => if x123000 < 1 then (job_node.j2 k x5 x6 true x122000 x123000 x123001 x123002 x123003 x123004 x123005 x123006 x123007 x123008 x123009) else (job_node.j2 k x5 x6 (decide (x123000 > 8)) x122000 x123000 x123001 x123002 x123003 x123004 x123005 x123006 x123007 x123008 x123009)
def job_node.j2 : Nat → Bool → Bool → Bool → List (S38) → Int → List Int → Int → Int → Int → List (S34) → Int → Int → Int → Int → Option (Int)
  | 0, _, _, _, _, _, _, _, _, _, _, _, _, _, _ => none
  | k + 1, x5, x6, x28, x122000, x123000, x123001, x123002, x123003, x123004, x123005, x123006, x123007, x123008, x123009 => if x28 = true then (some 81) else ((job_inputs.f x122000 x123000 x123001 x123002 x123003 x123004 x123005 x123006 x123007 x123008 x123009).bind fun t123 => (if t123 = true then (if x123002 < 1 then (job_node.j3 k x5 x6 true x123000 x123001 x123002 x123003 x123004 x123005 x123006 x123007 x123008 x123009) else (job_node.j3 k x5 x6 (decide (x123002 > 4)) x123000 x123001 x123002 x123003 x123004 x123005 x123006 x123007 x123008 x123009)) else (some 82)))
def job_node.j3 : Nat → Bool → Bool → Bool → Int → List Int → Int → Int → Int → List (S34) → Int → Int → Int → Int → Option (Int)
  | 0, _, _, _, _, _, _, _, _, _, _, _, _, _ => none
  | k + 1, x5, x6, x42, x123000, x123001, x123002, x123003, x123004, x123005, x123006, x123007, x123008, x123009 => if x42 = true then (some 84) else (if x5 = true then ((expr_Check.f k x123003 x123004 x123005).bind fun t124 => (if t124 = 0 then (job_node.j4 k x6 false x123000 x123001 x123002 x123003 x123004 x123005 x123006 x123007 x123008 x123009) else (job_node.j4 k x6 true x123000 x123001 x123002 x123003 x123004 x123005 x123006 x123007 x123008 x123009))) else ((job_zero.f x123003 x123004 x123005).bind fun t125 => (job_node.j4 k x6 (!t125) x123000 x123001 x123002 x123003 x123004 x123005 x123006 x123007 x123008 x123009)))
def job_node.j4 : Nat → Bool → Bool → Int → List Int → Int → Int → Int → List (S34) → Int → Int → Int → Int → Option (Int)
  | 0, _, _, _, _, _, _, _, _, _, _, _, _ => none
  | k + 1, x6, x51, x123000, x123001, x123002, x123003, x123004, x123005, x123006, x123007, x123008, x123009 => if x51 = true then (some 85) else (if x6 = true then (if x123006 < 1 then (job_node.j5 k true x123000 x123001 x123002 x123003 x123004 x123005 x123006 x123007 x123008 x123009) else (if x123006 > 5 then (job_node.j5 k true x123000 x123001 x123002 x123003 x123004 x123005 x123006 x123007 x123008 x123009) else (job_node.j5 k false x123000 x123001 x123002 x123003 x123004 x123005 x123006 x123007 x123008 x123009))) else (job_node.j5 k (x123006 != 0) x123000 x123001 x123002 x123003 x123004 x123005 x123006 x123007 x123008 x123009))
def job_node.j5 : Nat → Bool → Int → List Int → Int → Int → Int → List (S34) → Int → Int → Int → Int → Option (Int)
  | 0, _, _, _, _, _, _, _, _, _, _, _ => none
  | k + 1, x69, x123000, x123001, x123002, x123003, x123004, x123005, x123006, x123007, x123008, x123009 => if x69 = true then (some 86) else (if x123000 = 7 then ((job_win.f k x123007 x123008 x123009).bind fun t126 => (if t126 = true then (some 0) else (some 87))) else (if (!(x123007 == 0) || (!(x123008 == 0) || (!(x123009 == 0)))) = true then (some 87) else (some 0)))
end
def job_node.f (k : Nat) (l0_0 : List (S38)) (a1_0 : Int) (l1_1 : List Int) (a1_2 : Int) (a1_3 : Int) (a1_4 : Int) (l1_5 : List (S34)) (a1_6 : Int) (a1_7 : Int) (a1_8 : Int) (a1_9 : Int) : Option (Int) := if a1_0 = 2 then (job_node.j0 k true l0_0 a1_0 l1_1 a1_2 a1_3 a1_4 l1_5 a1_6 a1_7 a1_8 a1_9) else (if a1_0 = 3 then (job_node.j0 k true l0_0 a1_0 l1_1 a1_2 a1_3 a1_4 l1_5 a1_6 a1_7 a1_8 a1_9) else (job_node.j0 k (a1_0 == 4) l0_0 a1_0 l1_1 a1_2 a1_3 a1_4 l1_5 a1_6 a1_7 a1_8 a1_9))
theorem job_node.mono_l : ∀ k, (∀ y0 y1 y2 y3 y4 y5 y6 y7 y8 y9 y10 y11, LeO (job_node.j0 k y0 y1 y2 y3 y4 y5 y6 y7 y8 y9 y10 y11) (job_node.j0 (k + 1) y0 y1 y2 y3 y4 y5 y6 y7 y8 y9 y10 y11)) ∧ (∀ y0 y1 y2 y3 y4 y5 y6 y7 y8 y9 y10 y11 y12, LeO (job_node.j1 k y0 y1 y2 y3 y4 y5 y6 y7 y8 y9 y10 y11 y12) (job_node.j1 (k + 1) y0 y1 y2 y3 y4 y5 y6 y7 y8 y9 y10 y11 y12)) ∧ (∀ y0 y1 y2 y3 y4 y5 y6 y7 y8 y9 y10 y11 y12 y13, LeO (job_node.j2 k y0 y1 y2 y3 y4 y5 y6 y7 y8 y9 y10 y11 y12 y13) (job_node.j2 (k + 1) y0 y1 y2 y3 y4 y5 y6 y7 y8 y9 y10 y11 y12 y13)) ∧ (∀ y0 y1 y2 y3 y4 y5 y6 y7 y8 y9 y10 y11 y12, LeO (job_node.j3 k y0 y1 y2 y3 y4 y5 y6 y7 y8 y9 y10 y11 y12) (job_node.j3 (k + 1) y0 y1 y2 y3 y4 y5 y6 y7 y8 y9 y10 y11 y12)) ∧ (∀ y0 y1 y2 y3 y4 y5 y6 y7 y8 y9 y10 y11, LeO (job_node.j4 k y0 y1 y2 y3 y4 y5 y6 y7 y8 y9 y10 y11) (job_node.j4 (k + 1) y0 y1 y2 y3 y4 y5 y6 y7 y8 y9 y10 y11)) ∧ (∀ y0 y1 y2 y3 y4 y5 y6 y7 y8 y9 y10, LeO (job_node.j5 k y0 y1 y2 y3 y4 y5 y6 y7 y8 y9 y10) (job_node.j5 (k + 1) y0 y1 y2 y3 y4 y5 y6 y7 y8 y9 y10))
  | 0 => ⟨fun _ _ _ _ _ _ _ _ _ _ _ _ r h => by simp [job_node.j0] at h, fun _ _ _ _ _ _ _ _ _ _ _ _ _ r h => by simp [job_node.j1] at h, fun _ _ _ _ _ _ _ _ _ _ _ _ _ _ r h => by simp [job_node.j2] at h, fun _ _ _ _ _ _ _ _ _ _ _ _ _ r h => by simp [job_node.j3] at h, fun _ _ _ _ _ _ _ _ _ _ _ _ r h => by simp [job_node.j4] at h, fun _ _ _ _ _ _ _ _ _ _ _ r h => by simp [job_node.j5] at h⟩
  | k + 1 => by
    obtain ⟨ih0, ih1, ih2, ih3, ih4, ih5⟩ := job_node.mono_l k
    refine ⟨?_, ?_, ?_, ?_, ?_, ?_⟩
    · intro y0 y1 y2 y3 y4 y5 y6 y7 y8 y9 y10 y11
      unfold job_node.j0
      repeat' first
      | (with_reducible exact ih0 _ _ _ _ _ _ _ _ _ _ _ _)
      | (with_reducible exact ih1 _ _ _ _ _ _ _ _ _ _ _ _ _)
      | (with_reducible exact ih2 _ _ _ _ _ _ _ _ _ _ _ _ _ _)
      | (with_reducible exact ih3 _ _ _ _ _ _ _ _ _ _ _ _ _)
      | (with_reducible exact ih4 _ _ _ _ _ _ _ _ _ _ _ _)
      | (with_reducible exact ih5 _ _ _ _ _ _ _ _ _ _ _)
      | (with_reducible exact expr_Check.mono _ _ _ _)
      | (with_reducible exact job_win.mono _ _ _ _)
      | (with_reducible exact LeO.refl _)
      | (with_reducible exact LeO.none _)
      | (with_reducible refine LeO.ite ?_ ?_)
      | (with_reducible refine LeO.bind ?_ (fun _ => ?_))
      | exact ih0 _ _ _ _ _ _ _ _ _ _ _ _
      | exact ih1 _ _ _ _ _ _ _ _ _ _ _ _ _
      | exact ih2 _ _ _ _ _ _ _ _ _ _ _ _ _ _
      | exact ih3 _ _ _ _ _ _ _ _ _ _ _ _ _
      | exact ih4 _ _ _ _ _ _ _ _ _ _ _ _
      | exact ih5 _ _ _ _ _ _ _ _ _ _ _
      | exact expr_Check.mono _ _ _ _
      | exact job_win.mono _ _ _ _
      | exact LeO.none _
      | refine LeO.ite ?_ ?_
      | refine LeO.bind ?_ (fun _ => ?_)
    · intro y0 y1 y2 y3 y4 y5 y6 y7 y8 y9 y10 y11 y12
      unfold job_node.j1
      repeat' first
      | (with_reducible exact ih0 _ _ _ _ _ _ _ _ _ _ _ _)
      | (with_reducible exact ih1 _ _ _ _ _ _ _ _ _ _ _ _ _)
      | (with_reducible exact ih2 _ _ _ _ _ _ _ _ _ _ _ _ _ _)
      | (with_reducible exact ih3 _ _ _ _ _ _ _ _ _ _ _ _ _)
      | (with_reducible exact ih4 _ _ _ _ _ _ _ _ _ _ _ _)
      | (with_reducible exact ih5 _ _ _ _ _ _ _ _ _ _ _)
      | (with_reducible exact expr_Check.mono _ _ _ _)
      | (with_reducible exact job_win.mono _ _ _ _)
      | (with_reducible exact LeO.refl _)
      | (with_reducible exact LeO.none _)
      | (with_reducible refine LeO.ite ?_ ?_)
      | (with_reducible refine LeO.bind ?_ (fun _ => ?_))
      | exact ih0 _ _ _ _ _ _ _ _ _ _ _ _
      | exact ih1 _ _ _ _ _ _ _ _ _ _ _ _ _
      | exact ih2 _ _ _ _ _ _ _ _ _ _ _ _ _ _
      | exact ih3 _ _ _ _ _ _ _ _ _ _ _ _ _
      | exact ih4 _ _ _ _ _ _ _ _ _ _ _ _
      | exact ih5 _ _ _ _ _ _ _ _ _ _ _
      | exact expr_Check.mono _ _ _ _
      | exact job_win.mono _ _ _ _
      | exact LeO.none _
      | refine LeO.ite ?_ ?_
      | refine LeO.bind ?_ (fun _ => ?_)
    · intro y0 y1 y2 y3 y4 y5 y6 y7 y8 y9 y10 y11 y12 y13
      unfold job_node.j2
      repeat' first
      | (with_reducible exact ih0 _ _ _ _ _ _ _ _ _ _ _ _)
      | (with_reducible exact ih1 _ _ _ _ _ _ _ _ _ _ _ _ _)
      | (with_reducible exact ih2 _ _ _ _ _ _ _ _ _ _ _ _ _ _)
      | (with_reducible exact ih3 _ _ _ _ _ _ _ _ _ _ _ _ _)
      | (with_reducible exact ih4 _ _ _ _ _ _ _ _ _ _ _ _)
      | (with_reducible exact ih5 _ _ _ _ _ _ _ _ _ _ _)
      | (with_reducible exact expr_Check.mono _ _ _ _)
      | (with_reducible exact job_win.mono _ _ _ _)
      | (with_reducible exact LeO.refl _)
      | (with_reducible exact LeO.none _)
      | (with_reducible refine LeO.ite ?_ ?_)
      | (with_reducible refine LeO.bind ?_ (fun _ => ?_))
      | exact ih0 _ _ _ _ _ _ _ _ _ _ _ _
      | exact ih1 _ _ _ _ _ _ _ _ _ _ _ _ _
      | exact ih2 _ _ _ _ _ _ _ _ _ _ _ _ _ _
      | exact ih3 _ _ _ _ _ _ _ _ _ _ _ _ _
      | exact ih4 _ _ _ _ _ _ _ _ _ _ _ _
      | exact ih5 _ _ _ _ _ _ _ _ _ _ _
      | exact expr_Check.mono _ _ _ _
      | exact job_win.mono _ _ _ _
      | exact LeO.none _
      | refine LeO.ite ?_ ?_
      | refine LeO.bind ?_ (fun _ => ?_)
    · intro y0 y1 y2 y3 y4 y5 y6 y7 y8 y9 y10 y11 y12
      unfold job_node.j3
      repeat' first
      | (with_reducible exact ih0 _ _ _ _ _ _ _ _ _ _ _ _)
      | (with_reducible exact ih1 _ _ _ _ _ _ _ _ _ _ _ _ _)
      | (with_reducible exact ih2 _ _ _ _ _ _ _ _ _ _ _ _ _ _)
      | (with_reducible exact ih3 _ _ _ _ _ _ _ _ _ _ _ _ _)
      | (with_reducible exact ih4 _ _ _ _ _ _ _ _ _ _ _ _)
      | (with_reducible exact ih5 _ _ _ _ _ _ _ _ _ _ _)
      | (with_reducible exact expr_Check.mono _ _ _ _)
      | (with_reducible exact job_win.mono _ _ _ _)
      | (with_reducible exact LeO.refl _)
      | (with_reducible exact LeO.none _)
      | (with_reducible refine LeO.ite ?_ ?_)
      | (with_reducible refine LeO.bind ?_ (fun _ => ?_))
      | exact ih0 _ _ _ _ _ _ _ _ _ _ _ _
      | exact ih1 _ _ _ _ _ _ _ _ _ _ _ _ _
      | exact ih2 _ _ _ _ _ _ _ _ _ _ _ _ _ _
      | exact ih3 _ _ _ _ _ _ _ _ _ _ _ _ _
      | exact ih4 _ _ _ _ _ _ _ _ _ _ _ _
      | exact ih5 _ _ _ _ _ _ _ _ _ _ _
      | exact expr_Check.mono _ _ _ _
      | exact job_win.mono _ _ _ _
      | exact LeO.none _
      | refine LeO.ite ?_ ?_
      | refine LeO.bind ?_ (fun _ => ?_)
    · intro y0 y1 y2 y3 y4 y5 y6 y7 y8 y9 y10 y11
      unfold job_node.j4
      repeat' first
      | (with_reducible exact ih0 _ _ _ _ _ _ _ _ _ _ _ _)
      | (with_reducible exact ih1 _ _ _ _ _ _ _ _ _ _ _ _ _)
      | (with_reducible exact ih2 _ _ _ _ _ _ _ _ _ _ _ _ _ _)
      | (with_reducible exact ih3 _ _ _ _ _ _ _ _ _ _ _ _ _)
      | (with_reducible exact ih4 _ _ _ _ _ _ _ _ _ _ _ _)
      | (with_reducible exact ih5 _ _ _ _ _ _ _ _ _ _ _)
      | (with_reducible exact expr_Check.mono _ _ _ _)
      | (with_reducible exact job_win.mono _ _ _ _)
      | (with_reducible exact LeO.refl _)
      | (with_reducible exact LeO.none _)
      | (with_reducible refine LeO.ite ?_ ?_)
      | (with_reducible refine LeO.bind ?_ (fun _ => ?_))
      | exact ih0 _ _ _ _ _ _ _ _ _ _ _ _
      | exact ih1 _ _ _ _ _ _ _ _ _ _ _ _ _
      | exact ih2 _ _ _ _ _ _ _ _ _ _ _ _ _ _
      | exact ih3 _ _ _ _ _ _ _ _ _ _ _ _ _
      | exact ih4 _ _ _ _ _ _ _ _ _ _ _ _
      | exact ih5 _ _ _ _ _ _ _ _ _ _ _
      | exact expr_Check.mono _ _ _ _
      | exact job_win.mono _ _ _ _
      | exact LeO.none _
      | refine LeO.ite ?_ ?_
      | refine LeO.bind ?_ (fun _ => ?_)
    · intro y0 y1 y2 y3 y4 y5 y6 y7 y8 y9 y10
      unfold job_node.j5
      repeat' first
      | (with_reducible exact ih0 _ _ _ _ _ _ _ _ _ _ _ _)
      | (with_reducible exact ih1 _ _ _ _ _ _ _ _ _ _ _ _ _)
      | (with_reducible exact ih2 _ _ _ _ _ _ _ _ _ _ _ _ _ _)
      | (with_reducible exact ih3 _ _ _ _ _ _ _ _ _ _ _ _ _)
      | (with_reducible exact ih4 _ _ _ _ _ _ _ _ _ _ _ _)
      | (with_reducible exact ih5 _ _ _ _ _ _ _ _ _ _ _)
      | (with_reducible exact expr_Check.mono _ _ _ _)
      | (with_reducible exact job_win.mono _ _ _ _)
      | (with_reducible exact LeO.refl _)
      | (with_reducible exact LeO.none _)
      | (with_reducible refine LeO.ite ?_ ?_)
      | (with_reducible refine LeO.bind ?_ (fun _ => ?_))
      | exact ih0 _ _ _ _ _ _ _ _ _ _ _ _
      | exact ih1 _ _ _ _ _ _ _ _ _ _ _ _ _
      | exact ih2 _ _ _ _ _ _ _ _ _ _ _ _ _ _
      | exact ih3 _ _ _ _ _ _ _ _ _ _ _ _ _
      | exact ih4 _ _ _ _ _ _ _ _ _ _ _ _
      | exact ih5 _ _ _ _ _ _ _ _ _ _ _
      | exact expr_Check.mono _ _ _ _
      | exact job_win.mono _ _ _ _
      | exact LeO.none _
      | refine LeO.ite ?_ ?_
      | refine LeO.bind ?_ (fun _ => ?_)
theorem job_node.mono : ∀ a0 a1 a2 a3 a4 a5 a6 a7 a8 a9 a10 k, LeO (job_node.f k a0 a1 a2 a3 a4 a5 a6 a7 a8 a9 a10) (job_node.f (k + 1) a0 a1 a2 a3 a4 a5 a6 a7 a8 a9 a10) := by
  intro a0 a1 a2 a3 a4 a5 a6 a7 a8 a9 a10 k
  obtain ⟨ih0, ih1, ih2, ih3, ih4, ih5⟩ := job_node.mono_l k
  unfold job_node.f
  repeat' first
      | (with_reducible exact ih0 _ _ _ _ _ _ _ _ _ _ _ _)
      | (with_reducible exact ih1 _ _ _ _ _ _ _ _ _ _ _ _ _)
      | (with_reducible exact ih2 _ _ _ _ _ _ _ _ _ _ _ _ _ _)
      | (with_reducible exact ih3 _ _ _ _ _ _ _ _ _ _ _ _ _)
      | (with_reducible exact ih4 _ _ _ _ _ _ _ _ _ _ _ _)
      | (with_reducible exact ih5 _ _ _ _ _ _ _ _ _ _ _)
      | (with_reducible exact expr_Check.mono _ _ _ _)
      | (with_reducible exact job_win.mono _ _ _ _)
      | (with_reducible exact LeO.refl _)
      | (with_reducible exact LeO.none _)
      | (with_reducible refine LeO.ite ?_ ?_)
      | (with_reducible refine LeO.bind ?_ (fun _ => ?_))
      | exact ih0 _ _ _ _ _ _ _ _ _ _ _ _
      | exact ih1 _ _ _ _ _ _ _ _ _ _ _ _ _
      | exact ih2 _ _ _ _ _ _ _ _ _ _ _ _ _ _
      | exact ih3 _ _ _ _ _ _ _ _ _ _ _ _ _
      | exact ih4 _ _ _ _ _ _ _ _ _ _ _ _
      | exact ih5 _ _ _ _ _ _ _ _ _ _ _
      | exact expr_Check.mono _ _ _ _
      | exact job_win.mono _ _ _ _
      | exact LeO.none _
      | refine LeO.ite ?_ ?_
      | refine LeO.bind ?_ (fun _ => ?_)
set_option maxHeartbeats 8000000 in
set_option maxRecDepth 100000 in
theorem job_node.calls (k : Nat) (A0_0 : Option Addr) (c0_0 : Nat) (l0_0 : List (S38)) (a1_0 : Int) (A1_1 : Option Addr) (c1_1 : Nat) (l1_1 : List Int) (a1_2 : Int) (a1_3 : Int) (a1_4 : Int) (A1_5 : Option Addr) (c1_5 : Nat) (l1_5 : List (S34)) (a1_6 : Int) (a1_7 : Int) (a1_8 : Int) (a1_9 : Int) (r : Int) (w : World) (hr0_0 : Kd.C k38 w A0_0 l0_0.length l0_0) (hc0_0 : l0_0.length ≤ c0_0) (hr1_1 : Kd.C (Kd.int .i64) w A1_1 l1_1.length l1_1) (hc1_1 : l1_1.length ≤ c1_1) (hr1_5 : Kd.C k34 w A1_5 l1_5.length l1_5) (hc1_5 : l1_5.length ≤ c1_5) (h : job_node.f k l0_0 a1_0 l1_1 a1_2 a1_3 a1_4 l1_5 a1_6 a1_7 a1_8 a1_9 = some r) :
    Calls Try.prog 31 #[.agg #[.slice A0_0 l0_0.length c0_0], .agg #[.int .i64 a1_0, .slice A1_1 l1_1.length c1_1, .int .i64 a1_2, .int .i64 a1_3, .int .i64 a1_4, .slice A1_5 l1_5.length c1_5, .int .i64 a1_6, .int .i64 a1_7, .int .i64 a1_8, .int .i64 a1_9]] w fun e w' => e = .returned (.int .i64 r) ∧ Below w.heap.size w w' := by
  have hu24 := Try.underlying24
  have hu38 := Try.underlying38
  have hu34 := Try.underlying34
  have hu36 := Try.underlying36
  have HR0_0 := Aside0.mk hr0_0
  have HC0_0 := Aside0.mk hc0_0
  clear hr0_0 hc0_0
  have HR1_1 := Aside0.mk hr1_1
  have HC1_1 := Aside0.mk hc1_1
  clear hr1_1 hc1_1
  have HR1_5 := Aside0.mk hr1_5
  have HC1_5 := Aside0.mk hc1_5
  clear hr1_5 hc1_5
  have HB := Aside0.mk (Below.refl w.heap.size w)
  have H : (if a1_0 = 2 then (job_node.j0 k true l0_0 a1_0 l1_1 a1_2 a1_3 a1_4 l1_5 a1_6 a1_7 a1_8 a1_9) else (if a1_0 = 3 then (job_node.j0 k true l0_0 a1_0 l1_1 a1_2 a1_3 a1_4 l1_5 a1_6 a1_7 a1_8 a1_9) else (job_node.j0 k (a1_0 == 4) l0_0 a1_0 l1_1 a1_2 a1_3 a1_4 l1_5 a1_6 a1_7 a1_8 a1_9))) = some r := h
  clear h
  have HC3 := Aside0.mk H
  clear H
  go_enter Try.func31, Try.ntmps31
  go_upto_region 1 with (first | ((with_reducible refine gate_dst (N := 2) rfl ?_); refine box_event ?hg (N := 2) ?hd (cs := #[.slice A0_0 l0_0.length c0_0]) (t := 24) ?hr ?_; (case hd => rfl); (case hg => rfl); (case hr => first | (go_simp; done) | (go_simp; rfl)); intro gb121 hg w4 hbox hb; have n0_ := Aside0.mk (below_step (by repeat (first | (with_reducible first | exact HB.out | apply below_alloc | apply pw_below_drewN | apply below_drew1) | exact HB.out)) hb); have n1_ := Aside0.mk (hbox); have n2_ := Aside0.mk ((by rw [hg]; exact (below_size (by repeat (first | (with_reducible first | exact HB.out | apply below_alloc | apply pw_below_drewN | apply below_drew1) | exact HB.out))) : w.heap.size ≤ gb121)); have n3_ := Aside0.mk ((by rw [hg]; exact (below_size (by repeat (first | (with_reducible first | exact HB.out | apply below_alloc | apply pw_below_drewN | apply below_drew1) | exact HB.out))) : w.heap.size ≤ gb121)); clear HB; have HB := n0_; have BK121 := n1_; have GW121 := n2_; have GE121 := n3_; clear n0_ n1_ n2_ n3_; clear hb hbox hg) | ((with_reducible refine gate_dst (N := 3) rfl ?_); refine box_event ?hg (N := 3) ?hd (cs := #[.int .i64 a1_0, .slice A1_1 l1_1.length c1_1, .int .i64 a1_2, .int .i64 a1_3, .int .i64 a1_4, .slice A1_5 l1_5.length c1_5, .int .i64 a1_6, .int .i64 a1_7, .int .i64 a1_8, .int .i64 a1_9]) (t := 38) ?hr ?_; (case hd => rfl); (case hg => rfl); (case hr => first | (go_simp; done) | (go_simp; rfl)); intro gb122 hg w5 hbox hb; have n0_ := Aside0.mk (blk_below (g := gb121) (o := .cells #[.slice A0_0 l0_0.length c0_0] 24 (0, 0)) (by (with_reducible repeat (first | refine blk_drewN ?_ _ | refine blk_drew ?_ | refine blk_alloc ?_ _)); exact BK121.out) hb); have n1_ := Aside0.mk (below_step (by repeat (first | (with_reducible first | exact HB.out | apply below_alloc | apply pw_below_drewN | apply below_drew1 | refine below_set ?_ GE121.out) | exact HB.out)) hb); have n2_ := Aside0.mk (hbox); have n3_ := Aside0.mk ((by rw [hg]; exact (below_size (by repeat (first | (with_reducible first | exact HB.out | apply below_alloc | apply pw_below_drewN | apply below_drew1 | refine below_set ?_ GE121.out) | exact HB.out))) : w.heap.size ≤ gb122)); have n4_ := Aside0.mk ((by rw [hg]; exact (below_size (by repeat (first | (with_reducible first | exact HB.out | apply below_alloc | apply pw_below_drewN | apply below_drew1 | refine below_set ?_ GE121.out) | exact HB.out))) : w.heap.size ≤ gb122)); have n5_ := Aside0.mk ((by rw [hg]; exact Nat.ne_of_lt (blk_lt (g := gb121) (o := .cells #[.slice A0_0 l0_0.length c0_0] 24 (0, 0)) (by (with_reducible repeat (first | refine blk_drewN ?_ _ | refine blk_drew ?_ | refine blk_alloc ?_ _)); exact BK121.out)) : gb121 ≠ gb122)); have n6_ := Aside0.mk ((by rw [hg]; exact Nat.ne_of_gt (blk_lt (g := gb121) (o := .cells #[.slice A0_0 l0_0.length c0_0] 24 (0, 0)) (by (with_reducible repeat (first | refine blk_drewN ?_ _ | refine blk_drew ?_ | refine blk_alloc ?_ _)); exact BK121.out)) : gb122 ≠ gb121)); clear BK121; clear HB; have BK121 := n0_; have HB := n1_; have BK122 := n2_; have GW122 := n3_; have GE122 := n4_; have NB121_122 := n5_; have NB122_121 := n6_; clear n0_ n1_ n2_ n3_ n4_ n5_ n6_; clear hb hbox hg))
  (try simp only [Act.put, List.setIfInBounds_toArray, List.set_cons_zero, List.set_cons_succ])
  go_cut [5] (fun v5 wc => ∃ (kq : Nat) (x5_2 : Bool), v5 = .bool x5_2 ∧ Aside0 (job_node.j0 kq x5_2 l0_0 a1_0 l1_1 a1_2 a1_3 a1_4 l1_5 a1_6 a1_7 a1_8 a1_9 = some r) ∧ Aside0 (kq ≤ k) ∧ Aside0 (wc.heap[gb121]? = some (.cells #[(.slice A0_0 l0_0.length c0_0)] 24 (0, 0))) ∧ Aside0 (wc.heap[gb122]? = some (.cells #[.int .i64 a1_0, (.slice A1_1 l1_1.length c1_1), .int .i64 a1_2, .int .i64 a1_3, .int .i64 a1_4, (.slice A1_5 l1_5.length c1_5), .int .i64 a1_6, .int .i64 a1_7, .int .i64 a1_8, .int .i64 a1_9] 38 (0, 0))) ∧ Aside0 (Below w.heap.size w wc))
  case first =>
    have H := HC3.out
    clear HC3
    by_cases c6 : a1_0 = 2
    · rw [if_pos c6] at H
      have c6b0 : (a1_0 == 2) = true := beq_iff_eq.mpr c6
      have c6b1 : (a1_0 != 2) = false := bne_eq_false_iff_eq.mpr c6
      clear c6
      (first | rw [c6b0] | (simp only [i64_w, i32_w]; rw [c6b0]) | skip)
      have H' := Aside0.mk H
      clear H
      have hnb7 := NB122_121.out
      have hnc7 := NB121_122.out
      have hcz8_0 : w5.cell? ⟨gb122, 0, none⟩ = some (.int .i64 a1_0) := (blk_cell BK122.out 0).trans rfl
      have hcz8_1 : w5.cell? ⟨gb122, 1, none⟩ = some (.slice A1_1 l1_1.length c1_1) := (blk_cell BK122.out 1).trans rfl
      have hcz8_2 : w5.cell? ⟨gb122, 2, none⟩ = some (.int .i64 a1_2) := (blk_cell BK122.out 2).trans rfl
      have hcz8_3 : w5.cell? ⟨gb122, 3, none⟩ = some (.int .i64 a1_3) := (blk_cell BK122.out 3).trans rfl
      have hcz8_4 : w5.cell? ⟨gb122, 4, none⟩ = some (.int .i64 a1_4) := (blk_cell BK122.out 4).trans rfl
      have hcz8_5 : w5.cell? ⟨gb122, 5, none⟩ = some (.slice A1_5 l1_5.length c1_5) := (blk_cell BK122.out 5).trans rfl
      have hcz8_6 : w5.cell? ⟨gb122, 6, none⟩ = some (.int .i64 a1_6) := (blk_cell BK122.out 6).trans rfl
      have hcz8_7 : w5.cell? ⟨gb122, 7, none⟩ = some (.int .i64 a1_7) := (blk_cell BK122.out 7).trans rfl
      have hcz8_8 : w5.cell? ⟨gb122, 8, none⟩ = some (.int .i64 a1_8) := (blk_cell BK122.out 8).trans rfl
      have hcz8_9 : w5.cell? ⟨gb122, 9, none⟩ = some (.int .i64 a1_9) := (blk_cell BK122.out 9).trans rfl
      have hfz8_0 := blk_frozen BK122.out 0
      have hfz8_1 := blk_frozen BK122.out 1
      have hfz8_2 := blk_frozen BK122.out 2
      have hfz8_3 := blk_frozen BK122.out 3
      have hfz8_4 := blk_frozen BK122.out 4
      have hfz8_5 := blk_frozen BK122.out 5
      have hfz8_6 := blk_frozen BK122.out 6
      have hfz8_7 := blk_frozen BK122.out 7
      have hfz8_8 := blk_frozen BK122.out 8
      have hfz8_9 := blk_frozen BK122.out 9
      go_wp2
      go_meet
      case rel => exact ⟨_, (true), (by first | rfl | (simp; done) | (simp [*]; done)), H', ⟨by first | omega | exact Nat.le_refl _⟩, ⟨by (with_reducible repeat (first | refine blk_drewN ?_ _ | refine blk_drew ?_ | refine blk_alloc ?_ _)); exact BK121.out⟩, ⟨by (with_reducible repeat (first | refine blk_drewN ?_ _ | refine blk_drew ?_ | refine blk_alloc ?_ _)); exact BK122.out⟩, ⟨by repeat (first | (with_reducible first | exact HB.out | apply below_alloc | apply pw_below_drewN | apply below_drew1 | refine below_set ?_ GE121.out | refine below_set ?_ GE122.out) | exact HB.out)⟩⟩
    · rw [if_neg c6] at H
      have c6b0 : (a1_0 == 2) = false := beq_eq_false_iff_ne.mpr c6
      have c6b1 : (a1_0 != 2) = true := bne_iff_ne.mpr c6
      (first | rw [c6b0] | (simp only [i64_w, i32_w]; rw [c6b0]) | skip)
      by_cases c9 : a1_0 = 3
      · rw [if_pos c9] at H
        have c9b0 : (a1_0 == 3) = true := beq_iff_eq.mpr c9
        have c9b1 : (a1_0 != 3) = false := bne_eq_false_iff_eq.mpr c9
        clear c9
        have H' := Aside0.mk H
        clear H
        have hnb10 := NB122_121.out
        have hnc10 := NB121_122.out
        have hcz11_0 : w5.cell? ⟨gb122, 0, none⟩ = some (.int .i64 a1_0) := (blk_cell BK122.out 0).trans rfl
        have hcz11_1 : w5.cell? ⟨gb122, 1, none⟩ = some (.slice A1_1 l1_1.length c1_1) := (blk_cell BK122.out 1).trans rfl
        have hcz11_2 : w5.cell? ⟨gb122, 2, none⟩ = some (.int .i64 a1_2) := (blk_cell BK122.out 2).trans rfl
        have hcz11_3 : w5.cell? ⟨gb122, 3, none⟩ = some (.int .i64 a1_3) := (blk_cell BK122.out 3).trans rfl
        have hcz11_4 : w5.cell? ⟨gb122, 4, none⟩ = some (.int .i64 a1_4) := (blk_cell BK122.out 4).trans rfl
        have hcz11_5 : w5.cell? ⟨gb122, 5, none⟩ = some (.slice A1_5 l1_5.length c1_5) := (blk_cell BK122.out 5).trans rfl
        have hcz11_6 : w5.cell? ⟨gb122, 6, none⟩ = some (.int .i64 a1_6) := (blk_cell BK122.out 6).trans rfl
        have hcz11_7 : w5.cell? ⟨gb122, 7, none⟩ = some (.int .i64 a1_7) := (blk_cell BK122.out 7).trans rfl
        have hcz11_8 : w5.cell? ⟨gb122, 8, none⟩ = some (.int .i64 a1_8) := (blk_cell BK122.out 8).trans rfl
        have hcz11_9 : w5.cell? ⟨gb122, 9, none⟩ = some (.int .i64 a1_9) := (blk_cell BK122.out 9).trans rfl
        have hfz11_0 := blk_frozen BK122.out 0
        have hfz11_1 := blk_frozen BK122.out 1
        have hfz11_2 := blk_frozen BK122.out 2
        have hfz11_3 := blk_frozen BK122.out 3
        have hfz11_4 := blk_frozen BK122.out 4
        have hfz11_5 := blk_frozen BK122.out 5
        have hfz11_6 := blk_frozen BK122.out 6
        have hfz11_7 := blk_frozen BK122.out 7
        have hfz11_8 := blk_frozen BK122.out 8
        have hfz11_9 := blk_frozen BK122.out 9
        go_wp2
        go_meet
        case rel => exact ⟨_, (true), (by first | rfl | (simp; done) | (simp [*]; done)), H', ⟨by first | omega | exact Nat.le_refl _⟩, ⟨by (with_reducible repeat (first | refine blk_drewN ?_ _ | refine blk_drew ?_ | refine blk_alloc ?_ _)); exact BK121.out⟩, ⟨by (with_reducible repeat (first | refine blk_drewN ?_ _ | refine blk_drew ?_ | refine blk_alloc ?_ _)); exact BK122.out⟩, ⟨by repeat (first | (with_reducible first | exact HB.out | apply below_alloc | apply pw_below_drewN | apply below_drew1 | refine below_set ?_ GE121.out | refine below_set ?_ GE122.out) | exact HB.out)⟩⟩
      · rw [if_neg c9] at H
        have c9b0 : (a1_0 == 3) = false := beq_eq_false_iff_ne.mpr c9
        have c9b1 : (a1_0 != 3) = true := bne_iff_ne.mpr c9
        have H' := Aside0.mk H
        clear H
        have hnb12 := NB122_121.out
        have hnc12 := NB121_122.out
        have hcz13_0 : w5.cell? ⟨gb122, 0, none⟩ = some (.int .i64 a1_0) := (blk_cell BK122.out 0).trans rfl
        have hcz13_1 : w5.cell? ⟨gb122, 1, none⟩ = some (.slice A1_1 l1_1.length c1_1) := (blk_cell BK122.out 1).trans rfl
        have hcz13_2 : w5.cell? ⟨gb122, 2, none⟩ = some (.int .i64 a1_2) := (blk_cell BK122.out 2).trans rfl
        have hcz13_3 : w5.cell? ⟨gb122, 3, none⟩ = some (.int .i64 a1_3) := (blk_cell BK122.out 3).trans rfl
        have hcz13_4 : w5.cell? ⟨gb122, 4, none⟩ = some (.int .i64 a1_4) := (blk_cell BK122.out 4).trans rfl
        have hcz13_5 : w5.cell? ⟨gb122, 5, none⟩ = some (.slice A1_5 l1_5.length c1_5) := (blk_cell BK122.out 5).trans rfl
        have hcz13_6 : w5.cell? ⟨gb122, 6, none⟩ = some (.int .i64 a1_6) := (blk_cell BK122.out 6).trans rfl
        have hcz13_7 : w5.cell? ⟨gb122, 7, none⟩ = some (.int .i64 a1_7) := (blk_cell BK122.out 7).trans rfl
        have hcz13_8 : w5.cell? ⟨gb122, 8, none⟩ = some (.int .i64 a1_8) := (blk_cell BK122.out 8).trans rfl
        have hcz13_9 : w5.cell? ⟨gb122, 9, none⟩ = some (.int .i64 a1_9) := (blk_cell BK122.out 9).trans rfl
        have hfz13_0 := blk_frozen BK122.out 0
        have hfz13_1 := blk_frozen BK122.out 1
        have hfz13_2 := blk_frozen BK122.out 2
        have hfz13_3 := blk_frozen BK122.out 3
        have hfz13_4 := blk_frozen BK122.out 4
        have hfz13_5 := blk_frozen BK122.out 5
        have hfz13_6 := blk_frozen BK122.out 6
        have hfz13_7 := blk_frozen BK122.out 7
        have hfz13_8 := blk_frozen BK122.out 8
        have hfz13_9 := blk_frozen BK122.out 9
        go_wp2
        go_meet
        case rel => exact ⟨_, ((a1_0 == 4)), (by first | rfl | (simp; done) | (simp [*]; done)), H', ⟨by first | omega | exact Nat.le_refl _⟩, ⟨by (with_reducible repeat (first | refine blk_drewN ?_ _ | refine blk_drew ?_ | refine blk_alloc ?_ _)); exact BK121.out⟩, ⟨by (with_reducible repeat (first | refine blk_drewN ?_ _ | refine blk_drew ?_ | refine blk_alloc ?_ _)); exact BK122.out⟩, ⟨by repeat (first | (with_reducible first | exact HB.out | apply below_alloc | apply pw_below_drewN | apply below_drew1 | refine below_set ?_ GE121.out | refine below_set ?_ GE122.out) | exact HB.out)⟩⟩
  case rest =>
    clear HC3
    try clear c1
    try clear p2
    try clear c3
    try clear c6
    try clear c6b0
    try clear c6b1
    try clear c7
    try clear c9
    try clear c9b0
    try clear c9b1
    try clear c10
    try clear c12
    try clear hcz11_0
    try clear hcz11_1
    try clear hcz11_2
    try clear hcz11_3
    try clear hcz11_4
    try clear hcz11_5
    try clear hcz11_6
    try clear hcz11_7
    try clear hcz11_8
    try clear hcz11_9
    try clear hcz13_0
    try clear hcz13_1
    try clear hcz13_2
    try clear hcz13_3
    try clear hcz13_4
    try clear hcz13_5
    try clear hcz13_6
    try clear hcz13_7
    try clear hcz13_8
    try clear hcz13_9
    try clear hcz8_0
    try clear hcz8_1
    try clear hcz8_2
    try clear hcz8_3
    try clear hcz8_4
    try clear hcz8_5
    try clear hcz8_6
    try clear hcz8_7
    try clear hcz8_8
    try clear hcz8_9
    try clear hfz11_0
    try clear hfz11_1
    try clear hfz11_2
    try clear hfz11_3
    try clear hfz11_4
    try clear hfz11_5
    try clear hfz11_6
    try clear hfz11_7
    try clear hfz11_8
    try clear hfz11_9
    try clear hfz13_0
    try clear hfz13_1
    try clear hfz13_2
    try clear hfz13_3
    try clear hfz13_4
    try clear hfz13_5
    try clear hfz13_6
    try clear hfz13_7
    try clear hfz13_8
    try clear hfz13_9
    try clear hfz8_0
    try clear hfz8_1
    try clear hfz8_2
    try clear hfz8_3
    try clear hfz8_4
    try clear hfz8_5
    try clear hfz8_6
    try clear hfz8_7
    try clear hfz8_8
    try clear hfz8_9
    obtain ⟨kq, x5_2, rfl, HA, HJ2, BK121, BK122, HB⟩ := hcut
    cases kq with
    | zero => exact absurd HA.out (by simp [job_node.j0])
    | succ kj2 =>
      have H := HA.out
      clear HA
      simp only [job_node.j0] at H
      have HC14 := Aside0.mk H
      clear H
      go_upto_region 2 with (fail)
      go_cut [6] (fun v6 wc => ∃ (kq : Nat) (x6_13 : Bool), v6 = .bool x6_13 ∧ Aside0 (job_node.j1 kq x5_2 x6_13 l0_0 a1_0 l1_1 a1_2 a1_3 a1_4 l1_5 a1_6 a1_7 a1_8 a1_9 = some r) ∧ Aside0 (kq ≤ kj2) ∧ Aside0 (wc.heap[gb121]? = some (.cells #[(.slice A0_0 l0_0.length c0_0)] 24 (0, 0))) ∧ Aside0 (wc.heap[gb122]? = some (.cells #[.int .i64 a1_0, (.slice A1_1 l1_1.length c1_1), .int .i64 a1_2, .int .i64 a1_3, .int .i64 a1_4, (.slice A1_5 l1_5.length c1_5), .int .i64 a1_6, .int .i64 a1_7, .int .i64 a1_8, .int .i64 a1_9] 38 (0, 0))) ∧ Aside0 (Below w.heap.size w wc))
      case first =>
        have H := HC14.out
        clear HC14
        by_cases c15 : a1_0 = 6
        · rw [if_pos c15] at H
          have c15b0 : (a1_0 == 6) = true := beq_iff_eq.mpr c15
          have c15b1 : (a1_0 != 6) = false := bne_eq_false_iff_eq.mpr c15
          clear c15
          (first | rw [c15b0] | (simp only [i64_w, i32_w]; rw [c15b0]) | skip)
          have H' := Aside0.mk H
          clear H
          have hnb16 := NB122_121.out
          have hnc16 := NB121_122.out
          have hcz17_0 : wc.cell? ⟨gb122, 0, none⟩ = some (.int .i64 a1_0) := (blk_cell BK122.out 0).trans rfl
          have hcz17_1 : wc.cell? ⟨gb122, 1, none⟩ = some (.slice A1_1 l1_1.length c1_1) := (blk_cell BK122.out 1).trans rfl
          have hcz17_2 : wc.cell? ⟨gb122, 2, none⟩ = some (.int .i64 a1_2) := (blk_cell BK122.out 2).trans rfl
          have hcz17_3 : wc.cell? ⟨gb122, 3, none⟩ = some (.int .i64 a1_3) := (blk_cell BK122.out 3).trans rfl
          have hcz17_4 : wc.cell? ⟨gb122, 4, none⟩ = some (.int .i64 a1_4) := (blk_cell BK122.out 4).trans rfl
          have hcz17_5 : wc.cell? ⟨gb122, 5, none⟩ = some (.slice A1_5 l1_5.length c1_5) := (blk_cell BK122.out 5).trans rfl
          have hcz17_6 : wc.cell? ⟨gb122, 6, none⟩ = some (.int .i64 a1_6) := (blk_cell BK122.out 6).trans rfl
          have hcz17_7 : wc.cell? ⟨gb122, 7, none⟩ = some (.int .i64 a1_7) := (blk_cell BK122.out 7).trans rfl
          have hcz17_8 : wc.cell? ⟨gb122, 8, none⟩ = some (.int .i64 a1_8) := (blk_cell BK122.out 8).trans rfl
          have hcz17_9 : wc.cell? ⟨gb122, 9, none⟩ = some (.int .i64 a1_9) := (blk_cell BK122.out 9).trans rfl
          have hfz17_0 := blk_frozen BK122.out 0
          have hfz17_1 := blk_frozen BK122.out 1
          have hfz17_2 := blk_frozen BK122.out 2
          have hfz17_3 := blk_frozen BK122.out 3
          have hfz17_4 := blk_frozen BK122.out 4
          have hfz17_5 := blk_frozen BK122.out 5
          have hfz17_6 := blk_frozen BK122.out 6
          have hfz17_7 := blk_frozen BK122.out 7
          have hfz17_8 := blk_frozen BK122.out 8
          have hfz17_9 := blk_frozen BK122.out 9
          go_wp2
          go_meet
          case rel => exact ⟨_, (true), (by first | rfl | (simp; done) | (simp [*]; done)), H', ⟨by have := HJ2.out; first | omega | exact Nat.le_refl _⟩, ⟨by (with_reducible repeat (first | refine blk_drewN ?_ _ | refine blk_drew ?_ | refine blk_alloc ?_ _)); exact BK121.out⟩, ⟨by (with_reducible repeat (first | refine blk_drewN ?_ _ | refine blk_drew ?_ | refine blk_alloc ?_ _)); exact BK122.out⟩, ⟨by repeat (first | (with_reducible first | exact HB.out | apply below_alloc | apply pw_below_drewN | apply below_drew1 | refine below_set ?_ GE121.out | refine below_set ?_ GE122.out) | exact HB.out)⟩⟩
        · rw [if_neg c15] at H
          have c15b0 : (a1_0 == 6) = false := beq_eq_false_iff_ne.mpr c15
          have c15b1 : (a1_0 != 6) = true := bne_iff_ne.mpr c15
          (first | rw [c15b0] | (simp only [i64_w, i32_w]; rw [c15b0]) | skip)
          have H' := Aside0.mk H
          clear H
          have hnb18 := NB122_121.out
          have hnc18 := NB121_122.out
          have hcz19_0 : wc.cell? ⟨gb122, 0, none⟩ = some (.int .i64 a1_0) := (blk_cell BK122.out 0).trans rfl
          have hcz19_1 : wc.cell? ⟨gb122, 1, none⟩ = some (.slice A1_1 l1_1.length c1_1) := (blk_cell BK122.out 1).trans rfl
          have hcz19_2 : wc.cell? ⟨gb122, 2, none⟩ = some (.int .i64 a1_2) := (blk_cell BK122.out 2).trans rfl
          have hcz19_3 : wc.cell? ⟨gb122, 3, none⟩ = some (.int .i64 a1_3) := (blk_cell BK122.out 3).trans rfl
          have hcz19_4 : wc.cell? ⟨gb122, 4, none⟩ = some (.int .i64 a1_4) := (blk_cell BK122.out 4).trans rfl
          have hcz19_5 : wc.cell? ⟨gb122, 5, none⟩ = some (.slice A1_5 l1_5.length c1_5) := (blk_cell BK122.out 5).trans rfl
          have hcz19_6 : wc.cell? ⟨gb122, 6, none⟩ = some (.int .i64 a1_6) := (blk_cell BK122.out 6).trans rfl
          have hcz19_7 : wc.cell? ⟨gb122, 7, none⟩ = some (.int .i64 a1_7) := (blk_cell BK122.out 7).trans rfl
          have hcz19_8 : wc.cell? ⟨gb122, 8, none⟩ = some (.int .i64 a1_8) := (blk_cell BK122.out 8).trans rfl
          have hcz19_9 : wc.cell? ⟨gb122, 9, none⟩ = some (.int .i64 a1_9) := (blk_cell BK122.out 9).trans rfl
          have hfz19_0 := blk_frozen BK122.out 0
          have hfz19_1 := blk_frozen BK122.out 1
          have hfz19_2 := blk_frozen BK122.out 2
          have hfz19_3 := blk_frozen BK122.out 3
          have hfz19_4 := blk_frozen BK122.out 4
          have hfz19_5 := blk_frozen BK122.out 5
          have hfz19_6 := blk_frozen BK122.out 6
          have hfz19_7 := blk_frozen BK122.out 7
          have hfz19_8 := blk_frozen BK122.out 8
          have hfz19_9 := blk_frozen BK122.out 9
          go_wp2
          go_meet
          case rel => exact ⟨_, ((a1_0 == 7)), (by first | rfl | (simp; done) | (simp [*]; done)), H', ⟨by have := HJ2.out; first | omega | exact Nat.le_refl _⟩, ⟨by (with_reducible repeat (first | refine blk_drewN ?_ _ | refine blk_drew ?_ | refine blk_alloc ?_ _)); exact BK121.out⟩, ⟨by (with_reducible repeat (first | refine blk_drewN ?_ _ | refine blk_drew ?_ | refine blk_alloc ?_ _)); exact BK122.out⟩, ⟨by repeat (first | (with_reducible first | exact HB.out | apply below_alloc | apply pw_below_drewN | apply below_drew1 | refine below_set ?_ GE121.out | refine below_set ?_ GE122.out) | exact HB.out)⟩⟩
      case rest =>
        clear HC14
        try clear c1
        try clear p2
        try clear c3
        try clear c6
        try clear c6b0
        try clear c6b1
        try clear c7
        try clear c9
        try clear c9b0
        try clear c9b1
        try clear c10
        try clear c12
        try clear c15
        try clear c15b0
        try clear c15b1
        try clear c16
        try clear c18
        try clear hcz11_0
        try clear hcz11_1
        try clear hcz11_2
        try clear hcz11_3
        try clear hcz11_4
        try clear hcz11_5
        try clear hcz11_6
        try clear hcz11_7
        try clear hcz11_8
        try clear hcz11_9
        try clear hcz13_0
        try clear hcz13_1
        try clear hcz13_2
        try clear hcz13_3
        try clear hcz13_4
        try clear hcz13_5
        try clear hcz13_6
        try clear hcz13_7
        try clear hcz13_8
        try clear hcz13_9
        try clear hcz17_0
        try clear hcz17_1
        try clear hcz17_2
        try clear hcz17_3
        try clear hcz17_4
        try clear hcz17_5
        try clear hcz17_6
        try clear hcz17_7
        try clear hcz17_8
        try clear hcz17_9
        try clear hcz19_0
        try clear hcz19_1
        try clear hcz19_2
        try clear hcz19_3
        try clear hcz19_4
        try clear hcz19_5
        try clear hcz19_6
        try clear hcz19_7
        try clear hcz19_8
        try clear hcz19_9
        try clear hcz8_0
        try clear hcz8_1
        try clear hcz8_2
        try clear hcz8_3
        try clear hcz8_4
        try clear hcz8_5
        try clear hcz8_6
        try clear hcz8_7
        try clear hcz8_8
        try clear hcz8_9
        try clear hfz11_0
        try clear hfz11_1
        try clear hfz11_2
        try clear hfz11_3
        try clear hfz11_4
        try clear hfz11_5
        try clear hfz11_6
        try clear hfz11_7
        try clear hfz11_8
        try clear hfz11_9
        try clear hfz13_0
        try clear hfz13_1
        try clear hfz13_2
        try clear hfz13_3
        try clear hfz13_4
        try clear hfz13_5
        try clear hfz13_6
        try clear hfz13_7
        try clear hfz13_8
        try clear hfz13_9
        try clear hfz17_0
        try clear hfz17_1
        try clear hfz17_2
        try clear hfz17_3
        try clear hfz17_4
        try clear hfz17_5
        try clear hfz17_6
        try clear hfz17_7
        try clear hfz17_8
        try clear hfz17_9
        try clear hfz19_0
        try clear hfz19_1
        try clear hfz19_2
        try clear hfz19_3
        try clear hfz19_4
        try clear hfz19_5
        try clear hfz19_6
        try clear hfz19_7
        try clear hfz19_8
        try clear hfz19_9
        try clear hfz8_0
        try clear hfz8_1
        try clear hfz8_2
        try clear hfz8_3
        try clear hfz8_4
        try clear hfz8_5
        try clear hfz8_6
        try clear hfz8_7
        try clear hfz8_8
        try clear hfz8_9
        try clear p2
        obtain ⟨kq, x6_13, rfl, HA, HJ13, BK121, BK122, HB⟩ := hcut
        cases kq with
        | zero => exact absurd HA.out (by simp [job_node.j1])
        | succ kj13 =>
          have H := HA.out
          clear HA
          simp only [job_node.j1] at H
          have HC20 := Aside0.mk H
          clear H
          go_upto_region 3 with (fail)
          go_cut [28] (fun v28 wc => ∃ (kq : Nat) (x28_19 : Bool), v28 = .bool x28_19 ∧ Aside0 (job_node.j2 kq x5_2 x6_13 x28_19 l0_0 a1_0 l1_1 a1_2 a1_3 a1_4 l1_5 a1_6 a1_7 a1_8 a1_9 = some r) ∧ Aside0 (kq ≤ kj13) ∧ Aside0 (wc.heap[gb121]? = some (.cells #[(.slice A0_0 l0_0.length c0_0)] 24 (0, 0))) ∧ Aside0 (wc.heap[gb122]? = some (.cells #[.int .i64 a1_0, (.slice A1_1 l1_1.length c1_1), .int .i64 a1_2, .int .i64 a1_3, .int .i64 a1_4, (.slice A1_5 l1_5.length c1_5), .int .i64 a1_6, .int .i64 a1_7, .int .i64 a1_8, .int .i64 a1_9] 38 (0, 0))) ∧ Aside0 (Below w.heap.size w wc))
          case first =>
            have H := HC20.out
            clear HC20
            by_cases c21 : a1_0 < 1
            · rw [if_pos c21] at H
              have c21b0 : decide (a1_0 < 1) = true := decide_eq_true c21
              clear c21
              (first | rw [c21b0] | (simp only [i64_w, i32_w]; rw [c21b0]) | skip)
              have H' := Aside0.mk H
              clear H
              have hnb22 := NB122_121.out
              have hnc22 := NB121_122.out
              have hcz23_0 : wc.cell? ⟨gb122, 0, none⟩ = some (.int .i64 a1_0) := (blk_cell BK122.out 0).trans rfl
              have hcz23_1 : wc.cell? ⟨gb122, 1, none⟩ = some (.slice A1_1 l1_1.length c1_1) := (blk_cell BK122.out 1).trans rfl
              have hcz23_2 : wc.cell? ⟨gb122, 2, none⟩ = some (.int .i64 a1_2) := (blk_cell BK122.out 2).trans rfl
              have hcz23_3 : wc.cell? ⟨gb122, 3, none⟩ = some (.int .i64 a1_3) := (blk_cell BK122.out 3).trans rfl
              have hcz23_4 : wc.cell? ⟨gb122, 4, none⟩ = some (.int .i64 a1_4) := (blk_cell BK122.out 4).trans rfl
              have hcz23_5 : wc.cell? ⟨gb122, 5, none⟩ = some (.slice A1_5 l1_5.length c1_5) := (blk_cell BK122.out 5).trans rfl
              have hcz23_6 : wc.cell? ⟨gb122, 6, none⟩ = some (.int .i64 a1_6) := (blk_cell BK122.out 6).trans rfl
              have hcz23_7 : wc.cell? ⟨gb122, 7, none⟩ = some (.int .i64 a1_7) := (blk_cell BK122.out 7).trans rfl
              have hcz23_8 : wc.cell? ⟨gb122, 8, none⟩ = some (.int .i64 a1_8) := (blk_cell BK122.out 8).trans rfl
              have hcz23_9 : wc.cell? ⟨gb122, 9, none⟩ = some (.int .i64 a1_9) := (blk_cell BK122.out 9).trans rfl
              have hfz23_0 := blk_frozen BK122.out 0
              have hfz23_1 := blk_frozen BK122.out 1
              have hfz23_2 := blk_frozen BK122.out 2
              have hfz23_3 := blk_frozen BK122.out 3
              have hfz23_4 := blk_frozen BK122.out 4
              have hfz23_5 := blk_frozen BK122.out 5
              have hfz23_6 := blk_frozen BK122.out 6
              have hfz23_7 := blk_frozen BK122.out 7
              have hfz23_8 := blk_frozen BK122.out 8
              have hfz23_9 := blk_frozen BK122.out 9
              go_wp2
              go_meet
              case rel => exact ⟨_, (true), (by first | rfl | (simp; done) | (simp [*]; done)), H', ⟨by have := HJ2.out; have := HJ13.out; first | omega | exact Nat.le_refl _⟩, ⟨by (with_reducible repeat (first | refine blk_drewN ?_ _ | refine blk_drew ?_ | refine blk_alloc ?_ _)); exact BK121.out⟩, ⟨by (with_reducible repeat (first | refine blk_drewN ?_ _ | refine blk_drew ?_ | refine blk_alloc ?_ _)); exact BK122.out⟩, ⟨by repeat (first | (with_reducible first | exact HB.out | apply below_alloc | apply pw_below_drewN | apply below_drew1 | refine below_set ?_ GE121.out | refine below_set ?_ GE122.out) | exact HB.out)⟩⟩
            · rw [if_neg c21] at H
              have c21b0 : decide (a1_0 < 1) = false := decide_eq_false c21
              clear c21
              (first | rw [c21b0] | (simp only [i64_w, i32_w]; rw [c21b0]) | skip)
              have H' := Aside0.mk H
              clear H
              have hnb24 := NB122_121.out
              have hnc24 := NB121_122.out
              have hcz25_0 : wc.cell? ⟨gb122, 0, none⟩ = some (.int .i64 a1_0) := (blk_cell BK122.out 0).trans rfl
              have hcz25_1 : wc.cell? ⟨gb122, 1, none⟩ = some (.slice A1_1 l1_1.length c1_1) := (blk_cell BK122.out 1).trans rfl
              have hcz25_2 : wc.cell? ⟨gb122, 2, none⟩ = some (.int .i64 a1_2) := (blk_cell BK122.out 2).trans rfl
              have hcz25_3 : wc.cell? ⟨gb122, 3, none⟩ = some (.int .i64 a1_3) := (blk_cell BK122.out 3).trans rfl
              have hcz25_4 : wc.cell? ⟨gb122, 4, none⟩ = some (.int .i64 a1_4) := (blk_cell BK122.out 4).trans rfl
              have hcz25_5 : wc.cell? ⟨gb122, 5, none⟩ = some (.slice A1_5 l1_5.length c1_5) := (blk_cell BK122.out 5).trans rfl
              have hcz25_6 : wc.cell? ⟨gb122, 6, none⟩ = some (.int .i64 a1_6) := (blk_cell BK122.out 6).trans rfl
              have hcz25_7 : wc.cell? ⟨gb122, 7, none⟩ = some (.int .i64 a1_7) := (blk_cell BK122.out 7).trans rfl
              have hcz25_8 : wc.cell? ⟨gb122, 8, none⟩ = some (.int .i64 a1_8) := (blk_cell BK122.out 8).trans rfl
              have hcz25_9 : wc.cell? ⟨gb122, 9, none⟩ = some (.int .i64 a1_9) := (blk_cell BK122.out 9).trans rfl
              have hfz25_0 := blk_frozen BK122.out 0
              have hfz25_1 := blk_frozen BK122.out 1
              have hfz25_2 := blk_frozen BK122.out 2
              have hfz25_3 := blk_frozen BK122.out 3
              have hfz25_4 := blk_frozen BK122.out 4
              have hfz25_5 := blk_frozen BK122.out 5
              have hfz25_6 := blk_frozen BK122.out 6
              have hfz25_7 := blk_frozen BK122.out 7
              have hfz25_8 := blk_frozen BK122.out 8
              have hfz25_9 := blk_frozen BK122.out 9
              go_wp2
              go_meet
              case rel => exact ⟨_, (decide (a1_0 > 8)), (by first | rfl | (simp; done) | (simp [*]; done)), H', ⟨by have := HJ2.out; have := HJ13.out; first | omega | exact Nat.le_refl _⟩, ⟨by (with_reducible repeat (first | refine blk_drewN ?_ _ | refine blk_drew ?_ | refine blk_alloc ?_ _)); exact BK121.out⟩, ⟨by (with_reducible repeat (first | refine blk_drewN ?_ _ | refine blk_drew ?_ | refine blk_alloc ?_ _)); exact BK122.out⟩, ⟨by repeat (first | (with_reducible first | exact HB.out | apply below_alloc | apply pw_below_drewN | apply below_drew1 | refine below_set ?_ GE121.out | refine below_set ?_ GE122.out) | exact HB.out)⟩⟩
          case rest =>
            clear HC20
            try clear c1
            try clear c2
            try clear p2
            try clear c3
            try clear c6
            try clear c6b0
            try clear c6b1
            try clear c7
            try clear c9
            try clear c9b0
            try clear c9b1
            try clear c10
            try clear c12
            try clear c15
            try clear c15b0
            try clear c15b1
            try clear c16
            try clear c18
            try clear c21
            try clear c21b0
            try clear c22
            try clear c24
            try clear hcz11_0
            try clear hcz11_1
            try clear hcz11_2
            try clear hcz11_3
            try clear hcz11_4
            try clear hcz11_5
            try clear hcz11_6
            try clear hcz11_7
            try clear hcz11_8
            try clear hcz11_9
            try clear hcz13_0
            try clear hcz13_1
            try clear hcz13_2
            try clear hcz13_3
            try clear hcz13_4
            try clear hcz13_5
            try clear hcz13_6
            try clear hcz13_7
            try clear hcz13_8
            try clear hcz13_9
            try clear hcz17_0
            try clear hcz17_1
            try clear hcz17_2
            try clear hcz17_3
            try clear hcz17_4
            try clear hcz17_5
            try clear hcz17_6
            try clear hcz17_7
            try clear hcz17_8
            try clear hcz17_9
            try clear hcz19_0
            try clear hcz19_1
            try clear hcz19_2
            try clear hcz19_3
            try clear hcz19_4
            try clear hcz19_5
            try clear hcz19_6
            try clear hcz19_7
            try clear hcz19_8
            try clear hcz19_9
            try clear hcz23_0
            try clear hcz23_1
            try clear hcz23_2
            try clear hcz23_3
            try clear hcz23_4
            try clear hcz23_5
            try clear hcz23_6
            try clear hcz23_7
            try clear hcz23_8
            try clear hcz23_9
            try clear hcz25_0
            try clear hcz25_1
            try clear hcz25_2
            try clear hcz25_3
            try clear hcz25_4
            try clear hcz25_5
            try clear hcz25_6
            try clear hcz25_7
            try clear hcz25_8
            try clear hcz25_9
            try clear hcz8_0
            try clear hcz8_1
            try clear hcz8_2
            try clear hcz8_3
            try clear hcz8_4
            try clear hcz8_5
            try clear hcz8_6
            try clear hcz8_7
            try clear hcz8_8
            try clear hcz8_9
            try clear hfz11_0
            try clear hfz11_1
            try clear hfz11_2
            try clear hfz11_3
            try clear hfz11_4
            try clear hfz11_5
            try clear hfz11_6
            try clear hfz11_7
            try clear hfz11_8
            try clear hfz11_9
            try clear hfz13_0
            try clear hfz13_1
            try clear hfz13_2
            try clear hfz13_3
            try clear hfz13_4
            try clear hfz13_5
            try clear hfz13_6
            try clear hfz13_7
            try clear hfz13_8
            try clear hfz13_9
            try clear hfz17_0
            try clear hfz17_1
            try clear hfz17_2
            try clear hfz17_3
            try clear hfz17_4
            try clear hfz17_5
            try clear hfz17_6
            try clear hfz17_7
            try clear hfz17_8
            try clear hfz17_9
            try clear hfz19_0
            try clear hfz19_1
            try clear hfz19_2
            try clear hfz19_3
            try clear hfz19_4
            try clear hfz19_5
            try clear hfz19_6
            try clear hfz19_7
            try clear hfz19_8
            try clear hfz19_9
            try clear hfz23_0
            try clear hfz23_1
            try clear hfz23_2
            try clear hfz23_3
            try clear hfz23_4
            try clear hfz23_5
            try clear hfz23_6
            try clear hfz23_7
            try clear hfz23_8
            try clear hfz23_9
            try clear hfz25_0
            try clear hfz25_1
            try clear hfz25_2
            try clear hfz25_3
            try clear hfz25_4
            try clear hfz25_5
            try clear hfz25_6
            try clear hfz25_7
            try clear hfz25_8
            try clear hfz25_9
            try clear hfz8_0
            try clear hfz8_1
            try clear hfz8_2
            try clear hfz8_3
            try clear hfz8_4
            try clear hfz8_5
            try clear hfz8_6
            try clear hfz8_7
            try clear hfz8_8
            try clear hfz8_9
            try clear p2
            obtain ⟨kq, x28_19, rfl, HA, HJ19, BK121, BK122, HB⟩ := hcut
            cases kq with
            | zero => exact absurd HA.out (by simp [job_node.j2])
            | succ kj19 =>
              have H := HA.out
              clear HA
              simp only [job_node.j2] at H
              by_cases c26 : x28_19 = true
              · subst c26
                have H1 : (some 81) = some r := by rw [if_pos rfl] at H; exact H
                clear H
                have H := H1
                clear H1
                obtain rfl := Option.some.inj H
                go_wp2
                go_ret
                exact ⟨by first | rfl | (simp [errW_none, errW_some] <;> rfl) | (simp [*, errW_none, errW_some] <;> rfl), by repeat (first | (with_reducible first | exact HB.out | apply below_alloc | apply pw_below_drewN | apply below_drew1 | refine below_set ?_ GE121.out | refine below_set ?_ GE122.out) | exact HB.out)⟩
              · replace c26 := Bool.eq_false_iff.mpr c26
                subst c26
                have H1 : ((job_inputs.f l0_0 a1_0 l1_1 a1_2 a1_3 a1_4 l1_5 a1_6 a1_7 a1_8 a1_9).bind fun t123 => (if t123 = true then (if a1_2 < 1 then (job_node.j3 kj19 x5_2 x6_13 true a1_0 l1_1 a1_2 a1_3 a1_4 l1_5 a1_6 a1_7 a1_8 a1_9) else (job_node.j3 kj19 x5_2 x6_13 (decide (a1_2 > 4)) a1_0 l1_1 a1_2 a1_3 a1_4 l1_5 a1_6 a1_7 a1_8 a1_9)) else (some 82))) = some r := by rw [if_neg (show ¬ (false = true) by decide)] at H; exact H
                clear H
                have H := H1
                clear H1
                replace H := Option.bind_eq_some_iff.mp H
                obtain ⟨t123, A270, H⟩ := H
                replace H : (if t123 = true then (if a1_2 < 1 then (job_node.j3 kj19 x5_2 x6_13 true a1_0 l1_1 a1_2 a1_3 a1_4 l1_5 a1_6 a1_7 a1_8 a1_9) else (job_node.j3 kj19 x5_2 x6_13 (decide (a1_2 > 4)) a1_0 l1_1 a1_2 a1_3 a1_4 l1_5 a1_6 a1_7 a1_8 a1_9)) else (some 82)) = some r := H
                have A27 := Aside0.mk A270
                clear A270
                by_cases c28 : t123 = true
                · subst c28
                  have H1 : (if a1_2 < 1 then (job_node.j3 kj19 x5_2 x6_13 true a1_0 l1_1 a1_2 a1_3 a1_4 l1_5 a1_6 a1_7 a1_8 a1_9) else (job_node.j3 kj19 x5_2 x6_13 (decide (a1_2 > 4)) a1_0 l1_1 a1_2 a1_3 a1_4 l1_5 a1_6 a1_7 a1_8 a1_9)) = some r := by rw [if_pos rfl] at H; exact H
                  clear H
                  have H := H1
                  clear H1
                  have HC29 := Aside0.mk H
                  clear H
                  have hnb30 := NB121_122.out
                  have hnc30 := NB122_121.out
                  have hcz31_0 : wc.cell? ⟨gb121, 0, none⟩ = some (.slice A0_0 l0_0.length c0_0) := (blk_cell BK121.out 0).trans rfl
                  have hfz31_0 := blk_frozen BK121.out 0
                  have hcz32_0 : wc.cell? ⟨gb122, 0, none⟩ = some (.int .i64 a1_0) := (blk_cell BK122.out 0).trans rfl
                  have hcz32_1 : wc.cell? ⟨gb122, 1, none⟩ = some (.slice A1_1 l1_1.length c1_1) := (blk_cell BK122.out 1).trans rfl
                  have hcz32_2 : wc.cell? ⟨gb122, 2, none⟩ = some (.int .i64 a1_2) := (blk_cell BK122.out 2).trans rfl
                  have hcz32_3 : wc.cell? ⟨gb122, 3, none⟩ = some (.int .i64 a1_3) := (blk_cell BK122.out 3).trans rfl
                  have hcz32_4 : wc.cell? ⟨gb122, 4, none⟩ = some (.int .i64 a1_4) := (blk_cell BK122.out 4).trans rfl
                  have hcz32_5 : wc.cell? ⟨gb122, 5, none⟩ = some (.slice A1_5 l1_5.length c1_5) := (blk_cell BK122.out 5).trans rfl
                  have hcz32_6 : wc.cell? ⟨gb122, 6, none⟩ = some (.int .i64 a1_6) := (blk_cell BK122.out 6).trans rfl
                  have hcz32_7 : wc.cell? ⟨gb122, 7, none⟩ = some (.int .i64 a1_7) := (blk_cell BK122.out 7).trans rfl
                  have hcz32_8 : wc.cell? ⟨gb122, 8, none⟩ = some (.int .i64 a1_8) := (blk_cell BK122.out 8).trans rfl
                  have hcz32_9 : wc.cell? ⟨gb122, 9, none⟩ = some (.int .i64 a1_9) := (blk_cell BK122.out 9).trans rfl
                  have hfz32_0 := blk_frozen BK122.out 0
                  have hfz32_1 := blk_frozen BK122.out 1
                  have hfz32_2 := blk_frozen BK122.out 2
                  have hfz32_3 := blk_frozen BK122.out 3
                  have hfz32_4 := blk_frozen BK122.out 4
                  have hfz32_5 := blk_frozen BK122.out 5
                  have hfz32_6 := blk_frozen BK122.out 6
                  have hfz32_7 := blk_frozen BK122.out 7
                  have hfz32_8 := blk_frozen BK122.out 8
                  have hfz32_9 := blk_frozen BK122.out 9
                  go_upto_region 7 with (first | ((with_reducible refine gate_callee (f := 36) rfl ?_); refine goesL_ (some 40) rfl rfl Try.func36 (by kernel_rfl) rfl #[.agg #[.slice A0_0 l0_0.length c0_0], .agg #[.int .i64 a1_0, .slice A1_1 l1_1.length c1_1, .int .i64 a1_2, .int .i64 a1_3, .int .i64 a1_4, .slice A1_5 l1_5.length c1_5, .int .i64 a1_6, .int .i64 a1_7, .int .i64 a1_8, .int .i64 a1_9]] rfl (by (try simp only [List.map_toArray, List.map_cons, List.map_nil]); first | done | rfl | (simp only [List.length_drop, List.length_take]; rfl)) ?_; (with_reducible refine (job_inputs.calls _ _ l0_0 a1_0 _ _ l1_1 a1_2 a1_3 a1_4 _ _ l1_5 a1_6 a1_7 a1_8 a1_9 true _ ?side1 ?side2 ?side3 ?side4 ?side5 ?side6 A27.out).mono ?_); (case side1 => repeat (first | exact (Kd.C_below HR0_0.out HB.out) | (with_reducible refine Kd.C_alloc ?_ _) | (with_reducible refine Kd.C_drewN ?_ _) | (with_reducible refine Kd.C_drew ?_))); (case side2 => exact HC0_0.out); (case side3 => repeat (first | exact (Kd.C_below HR1_1.out HB.out) | (with_reducible refine Kd.C_alloc ?_ _) | (with_reducible refine Kd.C_drewN ?_ _) | (with_reducible refine Kd.C_drew ?_))); (case side4 => exact HC1_1.out); (case side5 => repeat (first | exact (Kd.C_below HR1_5.out HB.out) | (with_reducible refine Kd.C_alloc ?_ _) | (with_reducible refine Kd.C_drewN ?_ _) | (with_reducible refine Kd.C_drew ?_))); (case side6 => exact HC1_5.out); rintro e w33 ⟨rfl, hb⟩; refine ⟨_, rfl, ?_⟩; have n0_ := Aside0.mk (blk_below (g := gb121) (o := .cells #[.slice A0_0 l0_0.length c0_0] 24 (0, 0)) (by (with_reducible repeat (first | refine blk_drewN ?_ _ | refine blk_drew ?_ | refine blk_alloc ?_ _)); exact BK121.out) hb); have n1_ := Aside0.mk (blk_below (g := gb122) (o := .cells #[.int .i64 a1_0, .slice A1_1 l1_1.length c1_1, .int .i64 a1_2, .int .i64 a1_3, .int .i64 a1_4, .slice A1_5 l1_5.length c1_5, .int .i64 a1_6, .int .i64 a1_7, .int .i64 a1_8, .int .i64 a1_9] 38 (0, 0)) (by (with_reducible repeat (first | refine blk_drewN ?_ _ | refine blk_drew ?_ | refine blk_alloc ?_ _)); exact BK122.out) hb); have n2_ := Aside0.mk (below_step (by repeat (first | (with_reducible first | exact HB.out | apply below_alloc | apply pw_below_drewN | apply below_drew1 | refine below_set ?_ GE121.out | refine below_set ?_ GE122.out) | exact HB.out)) hb); clear BK121; clear BK122; clear HB; have BK121 := n0_; have BK122 := n1_; have HB := n2_; clear n0_ n1_ n2_; (try clear hb); (try clear hb2); (try clear hk); (try clear hi)))
                  (try simp only [Act.put, List.setIfInBounds_toArray, List.set_cons_zero, List.set_cons_succ])
                  go_cut [42] (fun v42 wc => ∃ (kq : Nat) (x42_28 : Bool), v42 = .bool x42_28 ∧ Aside0 (job_node.j3 kq x5_2 x6_13 x42_28 a1_0 l1_1 a1_2 a1_3 a1_4 l1_5 a1_6 a1_7 a1_8 a1_9 = some r) ∧ Aside0 (kq ≤ kj19) ∧ Aside0 (wc.heap[gb121]? = some (.cells #[(.slice A0_0 l0_0.length c0_0)] 24 (0, 0))) ∧ Aside0 (wc.heap[gb122]? = some (.cells #[.int .i64 a1_0, (.slice A1_1 l1_1.length c1_1), .int .i64 a1_2, .int .i64 a1_3, .int .i64 a1_4, (.slice A1_5 l1_5.length c1_5), .int .i64 a1_6, .int .i64 a1_7, .int .i64 a1_8, .int .i64 a1_9] 38 (0, 0))) ∧ Aside0 (Below w.heap.size w wc))
                  case first =>
                    have H := HC29.out
                    clear HC29
                    by_cases c34 : a1_2 < 1
                    · rw [if_pos c34] at H
                      have c34b0 : decide (a1_2 < 1) = true := decide_eq_true c34
                      clear c34
                      (first | rw [c34b0] | (simp only [i64_w, i32_w]; rw [c34b0]) | skip)
                      have H' := Aside0.mk H
                      clear H
                      have hnb35 := NB122_121.out
                      have hnc35 := NB121_122.out
                      have hcz36_0 : w33.cell? ⟨gb122, 0, none⟩ = some (.int .i64 a1_0) := (blk_cell BK122.out 0).trans rfl
                      have hcz36_1 : w33.cell? ⟨gb122, 1, none⟩ = some (.slice A1_1 l1_1.length c1_1) := (blk_cell BK122.out 1).trans rfl
                      have hcz36_2 : w33.cell? ⟨gb122, 2, none⟩ = some (.int .i64 a1_2) := (blk_cell BK122.out 2).trans rfl
                      have hcz36_3 : w33.cell? ⟨gb122, 3, none⟩ = some (.int .i64 a1_3) := (blk_cell BK122.out 3).trans rfl
                      have hcz36_4 : w33.cell? ⟨gb122, 4, none⟩ = some (.int .i64 a1_4) := (blk_cell BK122.out 4).trans rfl
                      have hcz36_5 : w33.cell? ⟨gb122, 5, none⟩ = some (.slice A1_5 l1_5.length c1_5) := (blk_cell BK122.out 5).trans rfl
                      have hcz36_6 : w33.cell? ⟨gb122, 6, none⟩ = some (.int .i64 a1_6) := (blk_cell BK122.out 6).trans rfl
                      have hcz36_7 : w33.cell? ⟨gb122, 7, none⟩ = some (.int .i64 a1_7) := (blk_cell BK122.out 7).trans rfl
                      have hcz36_8 : w33.cell? ⟨gb122, 8, none⟩ = some (.int .i64 a1_8) := (blk_cell BK122.out 8).trans rfl
                      have hcz36_9 : w33.cell? ⟨gb122, 9, none⟩ = some (.int .i64 a1_9) := (blk_cell BK122.out 9).trans rfl
                      have hfz36_0 := blk_frozen BK122.out 0
                      have hfz36_1 := blk_frozen BK122.out 1
                      have hfz36_2 := blk_frozen BK122.out 2
                      have hfz36_3 := blk_frozen BK122.out 3
                      have hfz36_4 := blk_frozen BK122.out 4
                      have hfz36_5 := blk_frozen BK122.out 5
                      have hfz36_6 := blk_frozen BK122.out 6
                      have hfz36_7 := blk_frozen BK122.out 7
                      have hfz36_8 := blk_frozen BK122.out 8
                      have hfz36_9 := blk_frozen BK122.out 9
                      go_wp2
                      go_meet
                      case rel => exact ⟨_, (true), (by first | rfl | (simp; done) | (simp [*]; done)), H', ⟨by have := HJ2.out; have := HJ13.out; have := HJ19.out; first | omega | exact Nat.le_refl _⟩, ⟨by (with_reducible repeat (first | refine blk_drewN ?_ _ | refine blk_drew ?_ | refine blk_alloc ?_ _)); exact BK121.out⟩, ⟨by (with_reducible repeat (first | refine blk_drewN ?_ _ | refine blk_drew ?_ | refine blk_alloc ?_ _)); exact BK122.out⟩, ⟨by repeat (first | (with_reducible first | exact HB.out | apply below_alloc | apply pw_below_drewN | apply below_drew1 | refine below_set ?_ GE121.out | refine below_set ?_ GE122.out) | exact HB.out)⟩⟩
                    · rw [if_neg c34] at H
                      have c34b0 : decide (a1_2 < 1) = false := decide_eq_false c34
                      clear c34
                      (first | rw [c34b0] | (simp only [i64_w, i32_w]; rw [c34b0]) | skip)
                      have H' := Aside0.mk H
                      clear H
                      have hnb37 := NB122_121.out
                      have hnc37 := NB121_122.out
                      have hcz38_0 : w33.cell? ⟨gb122, 0, none⟩ = some (.int .i64 a1_0) := (blk_cell BK122.out 0).trans rfl
                      have hcz38_1 : w33.cell? ⟨gb122, 1, none⟩ = some (.slice A1_1 l1_1.length c1_1) := (blk_cell BK122.out 1).trans rfl
                      have hcz38_2 : w33.cell? ⟨gb122, 2, none⟩ = some (.int .i64 a1_2) := (blk_cell BK122.out 2).trans rfl
                      have hcz38_3 : w33.cell? ⟨gb122, 3, none⟩ = some (.int .i64 a1_3) := (blk_cell BK122.out 3).trans rfl
                      have hcz38_4 : w33.cell? ⟨gb122, 4, none⟩ = some (.int .i64 a1_4) := (blk_cell BK122.out 4).trans rfl
                      have hcz38_5 : w33.cell? ⟨gb122, 5, none⟩ = some (.slice A1_5 l1_5.length c1_5) := (blk_cell BK122.out 5).trans rfl
                      have hcz38_6 : w33.cell? ⟨gb122, 6, none⟩ = some (.int .i64 a1_6) := (blk_cell BK122.out 6).trans rfl
                      have hcz38_7 : w33.cell? ⟨gb122, 7, none⟩ = some (.int .i64 a1_7) := (blk_cell BK122.out 7).trans rfl
                      have hcz38_8 : w33.cell? ⟨gb122, 8, none⟩ = some (.int .i64 a1_8) := (blk_cell BK122.out 8).trans rfl
                      have hcz38_9 : w33.cell? ⟨gb122, 9, none⟩ = some (.int .i64 a1_9) := (blk_cell BK122.out 9).trans rfl
                      have hfz38_0 := blk_frozen BK122.out 0
                      have hfz38_1 := blk_frozen BK122.out 1
                      have hfz38_2 := blk_frozen BK122.out 2
                      have hfz38_3 := blk_frozen BK122.out 3
                      have hfz38_4 := blk_frozen BK122.out 4
                      have hfz38_5 := blk_frozen BK122.out 5
                      have hfz38_6 := blk_frozen BK122.out 6
                      have hfz38_7 := blk_frozen BK122.out 7
                      have hfz38_8 := blk_frozen BK122.out 8
                      have hfz38_9 := blk_frozen BK122.out 9
                      go_wp2
                      go_meet
                      case rel => exact ⟨_, (decide (a1_2 > 4)), (by first | rfl | (simp; done) | (simp [*]; done)), H', ⟨by have := HJ2.out; have := HJ13.out; have := HJ19.out; first | omega | exact Nat.le_refl _⟩, ⟨by (with_reducible repeat (first | refine blk_drewN ?_ _ | refine blk_drew ?_ | refine blk_alloc ?_ _)); exact BK121.out⟩, ⟨by (with_reducible repeat (first | refine blk_drewN ?_ _ | refine blk_drew ?_ | refine blk_alloc ?_ _)); exact BK122.out⟩, ⟨by repeat (first | (with_reducible first | exact HB.out | apply below_alloc | apply pw_below_drewN | apply below_drew1 | refine below_set ?_ GE121.out | refine below_set ?_ GE122.out) | exact HB.out)⟩⟩
                  case rest =>
                    clear HC29
                    try clear c1
                    try clear c2
                    try clear p2
                    try clear c3
                    try clear c6
                    try clear c6b0
                    try clear c6b1
                    try clear c7
                    try clear c9
                    try clear c9b0
                    try clear c9b1
                    try clear c10
                    try clear c12
                    try clear c15
                    try clear c15b0
                    try clear c15b1
                    try clear c16
                    try clear c18
                    try clear c21
                    try clear c21b0
                    try clear c22
                    try clear c24
                    try clear c26
                    try clear c28
                    try clear c30
                    try clear c34
                    try clear c34b0
                    try clear c35
                    try clear c36
                    try clear c37
                    try clear hcz11_0
                    try clear hcz11_1
                    try clear hcz11_2
                    try clear hcz11_3
                    try clear hcz11_4
                    try clear hcz11_5
                    try clear hcz11_6
                    try clear hcz11_7
                    try clear hcz11_8
                    try clear hcz11_9
                    try clear hcz13_0
                    try clear hcz13_1
                    try clear hcz13_2
                    try clear hcz13_3
                    try clear hcz13_4
                    try clear hcz13_5
                    try clear hcz13_6
                    try clear hcz13_7
                    try clear hcz13_8
                    try clear hcz13_9
                    try clear hcz17_0
                    try clear hcz17_1
                    try clear hcz17_2
                    try clear hcz17_3
                    try clear hcz17_4
                    try clear hcz17_5
                    try clear hcz17_6
                    try clear hcz17_7
                    try clear hcz17_8
                    try clear hcz17_9
                    try clear hcz19_0
                    try clear hcz19_1
                    try clear hcz19_2
                    try clear hcz19_3
                    try clear hcz19_4
                    try clear hcz19_5
                    try clear hcz19_6
                    try clear hcz19_7
                    try clear hcz19_8
                    try clear hcz19_9
                    try clear hcz23_0
                    try clear hcz23_1
                    try clear hcz23_2
                    try clear hcz23_3
                    try clear hcz23_4
                    try clear hcz23_5
                    try clear hcz23_6
                    try clear hcz23_7
                    try clear hcz23_8
                    try clear hcz23_9
                    try clear hcz25_0
                    try clear hcz25_1
                    try clear hcz25_2
                    try clear hcz25_3
                    try clear hcz25_4
                    try clear hcz25_5
                    try clear hcz25_6
                    try clear hcz25_7
                    try clear hcz25_8
                    try clear hcz25_9
                    try clear hcz31_0
                    try clear hcz32_0
                    try clear hcz32_1
                    try clear hcz32_2
                    try clear hcz32_3
                    try clear hcz32_4
                    try clear hcz32_5
                    try clear hcz32_6
                    try clear hcz32_7
                    try clear hcz32_8
                    try clear hcz32_9
                    try clear hcz36_0
                    try clear hcz36_1
                    try clear hcz36_2
                    try clear hcz36_3
                    try clear hcz36_4
                    try clear hcz36_5
                    try clear hcz36_6
                    try clear hcz36_7
                    try clear hcz36_8
                    try clear hcz36_9
                    try clear hcz38_0
                    try clear hcz38_1
                    try clear hcz38_2
                    try clear hcz38_3
                    try clear hcz38_4
                    try clear hcz38_5
                    try clear hcz38_6
                    try clear hcz38_7
                    try clear hcz38_8
                    try clear hcz38_9
                    try clear hcz8_0
                    try clear hcz8_1
                    try clear hcz8_2
                    try clear hcz8_3
                    try clear hcz8_4
                    try clear hcz8_5
                    try clear hcz8_6
                    try clear hcz8_7
                    try clear hcz8_8
                    try clear hcz8_9
                    try clear hfz11_0
                    try clear hfz11_1
                    try clear hfz11_2
                    try clear hfz11_3
                    try clear hfz11_4
                    try clear hfz11_5
                    try clear hfz11_6
                    try clear hfz11_7
                    try clear hfz11_8
                    try clear hfz11_9
                    try clear hfz13_0
                    try clear hfz13_1
                    try clear hfz13_2
                    try clear hfz13_3
                    try clear hfz13_4
                    try clear hfz13_5
                    try clear hfz13_6
                    try clear hfz13_7
                    try clear hfz13_8
                    try clear hfz13_9
                    try clear hfz17_0
                    try clear hfz17_1
                    try clear hfz17_2
                    try clear hfz17_3
                    try clear hfz17_4
                    try clear hfz17_5
                    try clear hfz17_6
                    try clear hfz17_7
                    try clear hfz17_8
                    try clear hfz17_9
                    try clear hfz19_0
                    try clear hfz19_1
                    try clear hfz19_2
                    try clear hfz19_3
                    try clear hfz19_4
                    try clear hfz19_5
                    try clear hfz19_6
                    try clear hfz19_7
                    try clear hfz19_8
                    try clear hfz19_9
                    try clear hfz23_0
                    try clear hfz23_1
                    try clear hfz23_2
                    try clear hfz23_3
                    try clear hfz23_4
                    try clear hfz23_5
                    try clear hfz23_6
                    try clear hfz23_7
                    try clear hfz23_8
                    try clear hfz23_9
                    try clear hfz25_0
                    try clear hfz25_1
                    try clear hfz25_2
                    try clear hfz25_3
                    try clear hfz25_4
                    try clear hfz25_5
                    try clear hfz25_6
                    try clear hfz25_7
                    try clear hfz25_8
                    try clear hfz25_9
                    try clear hfz31_0
                    try clear hfz32_0
                    try clear hfz32_1
                    try clear hfz32_2
                    try clear hfz32_3
                    try clear hfz32_4
                    try clear hfz32_5
                    try clear hfz32_6
                    try clear hfz32_7
                    try clear hfz32_8
                    try clear hfz32_9
                    try clear hfz36_0
                    try clear hfz36_1
                    try clear hfz36_2
                    try clear hfz36_3
                    try clear hfz36_4
                    try clear hfz36_5
                    try clear hfz36_6
                    try clear hfz36_7
                    try clear hfz36_8
                    try clear hfz36_9
                    try clear hfz38_0
                    try clear hfz38_1
                    try clear hfz38_2
                    try clear hfz38_3
                    try clear hfz38_4
                    try clear hfz38_5
                    try clear hfz38_6
                    try clear hfz38_7
                    try clear hfz38_8
                    try clear hfz38_9
                    try clear hfz8_0
                    try clear hfz8_1
                    try clear hfz8_2
                    try clear hfz8_3
                    try clear hfz8_4
                    try clear hfz8_5
                    try clear hfz8_6
                    try clear hfz8_7
                    try clear hfz8_8
                    try clear hfz8_9
                    try clear p2
                    obtain ⟨kq, x42_28, rfl, HA, HJ28, BK121, BK122, HB⟩ := hcut
                    cases kq with
                    | zero => exact absurd HA.out (by simp [job_node.j3])
                    | succ kj28 =>
                      have H := HA.out
                      clear HA
                      simp only [job_node.j3] at H
                      by_cases c39 : x42_28 = true
                      · subst c39
                        have H1 : (some 84) = some r := by rw [if_pos rfl] at H; exact H
                        clear H
                        have H := H1
                        clear H1
                        obtain rfl := Option.some.inj H
                        go_wp2
                        go_ret
                        exact ⟨by first | rfl | (simp [errW_none, errW_some] <;> rfl) | (simp [*, errW_none, errW_some] <;> rfl), by repeat (first | (with_reducible first | exact HB.out | apply below_alloc | apply pw_below_drewN | apply below_drew1 | refine below_set ?_ GE121.out | refine below_set ?_ GE122.out) | exact HB.out)⟩
                      · replace c39 := Bool.eq_false_iff.mpr c39
                        subst c39
                        have H1 : (if x5_2 = true then ((expr_Check.f kj28 a1_3 a1_4 l1_5).bind fun t124 => (if t124 = 0 then (job_node.j4 kj28 x6_13 false a1_0 l1_1 a1_2 a1_3 a1_4 l1_5 a1_6 a1_7 a1_8 a1_9) else (job_node.j4 kj28 x6_13 true a1_0 l1_1 a1_2 a1_3 a1_4 l1_5 a1_6 a1_7 a1_8 a1_9))) else ((job_zero.f a1_3 a1_4 l1_5).bind fun t125 => (job_node.j4 kj28 x6_13 (!t125) a1_0 l1_1 a1_2 a1_3 a1_4 l1_5 a1_6 a1_7 a1_8 a1_9))) = some r := by rw [if_neg (show ¬ (false = true) by decide)] at H; exact H
                        clear H
                        have H := H1
                        clear H1
                        have HC40 := Aside0.mk H
                        clear H
                        go_upto_region 9 with (fail)
                        go_cut [51] (fun v51 wc => ∃ (kq : Nat) (x51_39 : Bool), v51 = .bool x51_39 ∧ Aside0 (job_node.j4 kq x6_13 x51_39 a1_0 l1_1 a1_2 a1_3 a1_4 l1_5 a1_6 a1_7 a1_8 a1_9 = some r) ∧ Aside0 (kq ≤ kj28) ∧ Aside0 (wc.heap[gb121]? = some (.cells #[(.slice A0_0 l0_0.length c0_0)] 24 (0, 0))) ∧ Aside0 (wc.heap[gb122]? = some (.cells #[.int .i64 a1_0, (.slice A1_1 l1_1.length c1_1), .int .i64 a1_2, .int .i64 a1_3, .int .i64 a1_4, (.slice A1_5 l1_5.length c1_5), .int .i64 a1_6, .int .i64 a1_7, .int .i64 a1_8, .int .i64 a1_9] 38 (0, 0))) ∧ Aside0 (Below w.heap.size w wc))
                        case first =>
                          have H := HC40.out
                          clear HC40
                          by_cases c41 : x5_2 = true
                          · subst c41
                            have H1 : ((expr_Check.f kj28 a1_3 a1_4 l1_5).bind fun t124 => (if t124 = 0 then (job_node.j4 kj28 x6_13 false a1_0 l1_1 a1_2 a1_3 a1_4 l1_5 a1_6 a1_7 a1_8 a1_9) else (job_node.j4 kj28 x6_13 true a1_0 l1_1 a1_2 a1_3 a1_4 l1_5 a1_6 a1_7 a1_8 a1_9))) = some r := by rw [if_pos rfl] at H; exact H
                            clear H
                            have H := H1
                            clear H1
                            replace H := Option.bind_eq_some_iff.mp H
                            obtain ⟨t124, A420, H⟩ := H
                            replace H : (if t124 = 0 then (job_node.j4 kj28 x6_13 false a1_0 l1_1 a1_2 a1_3 a1_4 l1_5 a1_6 a1_7 a1_8 a1_9) else (job_node.j4 kj28 x6_13 true a1_0 l1_1 a1_2 a1_3 a1_4 l1_5 a1_6 a1_7 a1_8 a1_9)) = some r := H
                            have A42 := Aside0.mk A420
                            clear A420
                            by_cases c43 : t124 = 0
                            · rw [if_pos c43] at H
                              have c43b0 : (t124 == 0) = true := beq_iff_eq.mpr c43
                              have c43b1 : (t124 != 0) = false := bne_eq_false_iff_eq.mpr c43
                              clear c43
                              (first | rw [c43b0] | (simp only [i64_w, i32_w]; rw [c43b0]) | skip)
                              have H' := Aside0.mk H
                              clear H
                              have hnb44 := NB122_121.out
                              have hnc44 := NB121_122.out
                              have hcz45_0 : wc.cell? ⟨gb122, 0, none⟩ = some (.int .i64 a1_0) := (blk_cell BK122.out 0).trans rfl
                              have hcz45_1 : wc.cell? ⟨gb122, 1, none⟩ = some (.slice A1_1 l1_1.length c1_1) := (blk_cell BK122.out 1).trans rfl
                              have hcz45_2 : wc.cell? ⟨gb122, 2, none⟩ = some (.int .i64 a1_2) := (blk_cell BK122.out 2).trans rfl
                              have hcz45_3 : wc.cell? ⟨gb122, 3, none⟩ = some (.int .i64 a1_3) := (blk_cell BK122.out 3).trans rfl
                              have hcz45_4 : wc.cell? ⟨gb122, 4, none⟩ = some (.int .i64 a1_4) := (blk_cell BK122.out 4).trans rfl
                              have hcz45_5 : wc.cell? ⟨gb122, 5, none⟩ = some (.slice A1_5 l1_5.length c1_5) := (blk_cell BK122.out 5).trans rfl
                              have hcz45_6 : wc.cell? ⟨gb122, 6, none⟩ = some (.int .i64 a1_6) := (blk_cell BK122.out 6).trans rfl
                              have hcz45_7 : wc.cell? ⟨gb122, 7, none⟩ = some (.int .i64 a1_7) := (blk_cell BK122.out 7).trans rfl
                              have hcz45_8 : wc.cell? ⟨gb122, 8, none⟩ = some (.int .i64 a1_8) := (blk_cell BK122.out 8).trans rfl
                              have hcz45_9 : wc.cell? ⟨gb122, 9, none⟩ = some (.int .i64 a1_9) := (blk_cell BK122.out 9).trans rfl
                              have hfz45_0 := blk_frozen BK122.out 0
                              have hfz45_1 := blk_frozen BK122.out 1
                              have hfz45_2 := blk_frozen BK122.out 2
                              have hfz45_3 := blk_frozen BK122.out 3
                              have hfz45_4 := blk_frozen BK122.out 4
                              have hfz45_5 := blk_frozen BK122.out 5
                              have hfz45_6 := blk_frozen BK122.out 6
                              have hfz45_7 := blk_frozen BK122.out 7
                              have hfz45_8 := blk_frozen BK122.out 8
                              have hfz45_9 := blk_frozen BK122.out 9
                              go_wp2_with (first | (go_at_call 37; (with_reducible refine (expr_Check.calls kj28 a1_3 a1_4 _ _ l1_5 t124 _ ?side1 ?side2 A42.out).mono ?_); (case side1 => repeat (first | exact (Kd.C_below HR1_5.out HB.out) | (with_reducible refine Kd.C_alloc ?_ _) | (with_reducible refine Kd.C_drewN ?_ _) | (with_reducible refine Kd.C_drew ?_))); (case side2 => exact HC1_5.out); rintro e w46 ⟨rfl, hb⟩; have n0_ := Aside0.mk (blk_below (g := gb121) (o := .cells #[.slice A0_0 l0_0.length c0_0] 24 (0, 0)) (by (with_reducible repeat (first | refine blk_drewN ?_ _ | refine blk_drew ?_ | refine blk_alloc ?_ _)); exact BK121.out) hb); have n1_ := Aside0.mk (blk_below (g := gb122) (o := .cells #[.int .i64 a1_0, .slice A1_1 l1_1.length c1_1, .int .i64 a1_2, .int .i64 a1_3, .int .i64 a1_4, .slice A1_5 l1_5.length c1_5, .int .i64 a1_6, .int .i64 a1_7, .int .i64 a1_8, .int .i64 a1_9] 38 (0, 0)) (by (with_reducible repeat (first | refine blk_drewN ?_ _ | refine blk_drew ?_ | refine blk_alloc ?_ _)); exact BK122.out) hb); have n2_ := Aside0.mk (below_step (by repeat (first | (with_reducible first | exact HB.out | apply below_alloc | apply pw_below_drewN | apply below_drew1 | refine below_set ?_ GE121.out | refine below_set ?_ GE122.out) | exact HB.out)) hb); clear BK121; clear BK122; clear HB; have BK121 := n0_; have BK122 := n1_; have HB := n2_; clear n0_ n1_ n2_; (try clear hb); (try clear hb2); (try clear hk); (try clear hi)))
                              go_meet
                              case rel => exact ⟨_, (false), (by first | rfl | (simp; done) | (simp [*]; done)), H', ⟨by have := HJ2.out; have := HJ13.out; have := HJ19.out; have := HJ28.out; first | omega | exact Nat.le_refl _⟩, ⟨by (with_reducible repeat (first | refine blk_drewN ?_ _ | refine blk_drew ?_ | refine blk_alloc ?_ _)); exact BK121.out⟩, ⟨by (with_reducible repeat (first | refine blk_drewN ?_ _ | refine blk_drew ?_ | refine blk_alloc ?_ _)); exact BK122.out⟩, ⟨by repeat (first | (with_reducible first | exact HB.out | apply below_alloc | apply pw_below_drewN | apply below_drew1 | refine below_set ?_ GE121.out | refine below_set ?_ GE122.out) | exact HB.out)⟩⟩
                            · rw [if_neg c43] at H
                              have c43b0 : (t124 == 0) = false := beq_eq_false_iff_ne.mpr c43
                              have c43b1 : (t124 != 0) = true := bne_iff_ne.mpr c43
                              (first | rw [c43b0] | (simp only [i64_w, i32_w]; rw [c43b0]) | skip)
                              have H' := Aside0.mk H
                              clear H
                              have hnb47 := NB122_121.out
                              have hnc47 := NB121_122.out
                              have hcz48_0 : wc.cell? ⟨gb122, 0, none⟩ = some (.int .i64 a1_0) := (blk_cell BK122.out 0).trans rfl
                              have hcz48_1 : wc.cell? ⟨gb122, 1, none⟩ = some (.slice A1_1 l1_1.length c1_1) := (blk_cell BK122.out 1).trans rfl
                              have hcz48_2 : wc.cell? ⟨gb122, 2, none⟩ = some (.int .i64 a1_2) := (blk_cell BK122.out 2).trans rfl
                              have hcz48_3 : wc.cell? ⟨gb122, 3, none⟩ = some (.int .i64 a1_3) := (blk_cell BK122.out 3).trans rfl
                              have hcz48_4 : wc.cell? ⟨gb122, 4, none⟩ = some (.int .i64 a1_4) := (blk_cell BK122.out 4).trans rfl
                              have hcz48_5 : wc.cell? ⟨gb122, 5, none⟩ = some (.slice A1_5 l1_5.length c1_5) := (blk_cell BK122.out 5).trans rfl
                              have hcz48_6 : wc.cell? ⟨gb122, 6, none⟩ = some (.int .i64 a1_6) := (blk_cell BK122.out 6).trans rfl
                              have hcz48_7 : wc.cell? ⟨gb122, 7, none⟩ = some (.int .i64 a1_7) := (blk_cell BK122.out 7).trans rfl
                              have hcz48_8 : wc.cell? ⟨gb122, 8, none⟩ = some (.int .i64 a1_8) := (blk_cell BK122.out 8).trans rfl
                              have hcz48_9 : wc.cell? ⟨gb122, 9, none⟩ = some (.int .i64 a1_9) := (blk_cell BK122.out 9).trans rfl
                              have hfz48_0 := blk_frozen BK122.out 0
                              have hfz48_1 := blk_frozen BK122.out 1
                              have hfz48_2 := blk_frozen BK122.out 2
                              have hfz48_3 := blk_frozen BK122.out 3
                              have hfz48_4 := blk_frozen BK122.out 4
                              have hfz48_5 := blk_frozen BK122.out 5
                              have hfz48_6 := blk_frozen BK122.out 6
                              have hfz48_7 := blk_frozen BK122.out 7
                              have hfz48_8 := blk_frozen BK122.out 8
                              have hfz48_9 := blk_frozen BK122.out 9
                              go_wp2_with (first | (go_at_call 37; (with_reducible refine (expr_Check.calls kj28 a1_3 a1_4 _ _ l1_5 t124 _ ?side1 ?side2 A42.out).mono ?_); (case side1 => repeat (first | exact (Kd.C_below HR1_5.out HB.out) | (with_reducible refine Kd.C_alloc ?_ _) | (with_reducible refine Kd.C_drewN ?_ _) | (with_reducible refine Kd.C_drew ?_))); (case side2 => exact HC1_5.out); rintro e w49 ⟨rfl, hb⟩; have n0_ := Aside0.mk (blk_below (g := gb121) (o := .cells #[.slice A0_0 l0_0.length c0_0] 24 (0, 0)) (by (with_reducible repeat (first | refine blk_drewN ?_ _ | refine blk_drew ?_ | refine blk_alloc ?_ _)); exact BK121.out) hb); have n1_ := Aside0.mk (blk_below (g := gb122) (o := .cells #[.int .i64 a1_0, .slice A1_1 l1_1.length c1_1, .int .i64 a1_2, .int .i64 a1_3, .int .i64 a1_4, .slice A1_5 l1_5.length c1_5, .int .i64 a1_6, .int .i64 a1_7, .int .i64 a1_8, .int .i64 a1_9] 38 (0, 0)) (by (with_reducible repeat (first | refine blk_drewN ?_ _ | refine blk_drew ?_ | refine blk_alloc ?_ _)); exact BK122.out) hb); have n2_ := Aside0.mk (below_step (by repeat (first | (with_reducible first | exact HB.out | apply below_alloc | apply pw_below_drewN | apply below_drew1 | refine below_set ?_ GE121.out | refine below_set ?_ GE122.out) | exact HB.out)) hb); clear BK121; clear BK122; clear HB; have BK121 := n0_; have BK122 := n1_; have HB := n2_; clear n0_ n1_ n2_; (try clear hb); (try clear hb2); (try clear hk); (try clear hi)))
                              go_meet
                              case rel => exact ⟨_, (true), (by first | rfl | (simp; done) | (simp [*]; done)), H', ⟨by have := HJ2.out; have := HJ13.out; have := HJ19.out; have := HJ28.out; first | omega | exact Nat.le_refl _⟩, ⟨by (with_reducible repeat (first | refine blk_drewN ?_ _ | refine blk_drew ?_ | refine blk_alloc ?_ _)); exact BK121.out⟩, ⟨by (with_reducible repeat (first | refine blk_drewN ?_ _ | refine blk_drew ?_ | refine blk_alloc ?_ _)); exact BK122.out⟩, ⟨by repeat (first | (with_reducible first | exact HB.out | apply below_alloc | apply pw_below_drewN | apply below_drew1 | refine below_set ?_ GE121.out | refine below_set ?_ GE122.out) | exact HB.out)⟩⟩
                          · replace c41 := Bool.eq_false_iff.mpr c41
                            subst c41
                            have H1 : ((job_zero.f a1_3 a1_4 l1_5).bind fun t125 => (job_node.j4 kj28 x6_13 (!t125) a1_0 l1_1 a1_2 a1_3 a1_4 l1_5 a1_6 a1_7 a1_8 a1_9)) = some r := by rw [if_neg (show ¬ (false = true) by decide)] at H; exact H
                            clear H
                            have H := H1
                            clear H1
                            replace H := Option.bind_eq_some_iff.mp H
                            obtain ⟨t125, A500, H⟩ := H
                            replace H : (job_node.j4 kj28 x6_13 (!t125) a1_0 l1_1 a1_2 a1_3 a1_4 l1_5 a1_6 a1_7 a1_8 a1_9) = some r := H
                            have A50 := Aside0.mk A500
                            clear A500
                            have H' := Aside0.mk H
                            clear H
                            have hnb51 := NB122_121.out
                            have hnc51 := NB121_122.out
                            have hcz52_0 : wc.cell? ⟨gb122, 0, none⟩ = some (.int .i64 a1_0) := (blk_cell BK122.out 0).trans rfl
                            have hcz52_1 : wc.cell? ⟨gb122, 1, none⟩ = some (.slice A1_1 l1_1.length c1_1) := (blk_cell BK122.out 1).trans rfl
                            have hcz52_2 : wc.cell? ⟨gb122, 2, none⟩ = some (.int .i64 a1_2) := (blk_cell BK122.out 2).trans rfl
                            have hcz52_3 : wc.cell? ⟨gb122, 3, none⟩ = some (.int .i64 a1_3) := (blk_cell BK122.out 3).trans rfl
                            have hcz52_4 : wc.cell? ⟨gb122, 4, none⟩ = some (.int .i64 a1_4) := (blk_cell BK122.out 4).trans rfl
                            have hcz52_5 : wc.cell? ⟨gb122, 5, none⟩ = some (.slice A1_5 l1_5.length c1_5) := (blk_cell BK122.out 5).trans rfl
                            have hcz52_6 : wc.cell? ⟨gb122, 6, none⟩ = some (.int .i64 a1_6) := (blk_cell BK122.out 6).trans rfl
                            have hcz52_7 : wc.cell? ⟨gb122, 7, none⟩ = some (.int .i64 a1_7) := (blk_cell BK122.out 7).trans rfl
                            have hcz52_8 : wc.cell? ⟨gb122, 8, none⟩ = some (.int .i64 a1_8) := (blk_cell BK122.out 8).trans rfl
                            have hcz52_9 : wc.cell? ⟨gb122, 9, none⟩ = some (.int .i64 a1_9) := (blk_cell BK122.out 9).trans rfl
                            have hfz52_0 := blk_frozen BK122.out 0
                            have hfz52_1 := blk_frozen BK122.out 1
                            have hfz52_2 := blk_frozen BK122.out 2
                            have hfz52_3 := blk_frozen BK122.out 3
                            have hfz52_4 := blk_frozen BK122.out 4
                            have hfz52_5 := blk_frozen BK122.out 5
                            have hfz52_6 := blk_frozen BK122.out 6
                            have hfz52_7 := blk_frozen BK122.out 7
                            have hfz52_8 := blk_frozen BK122.out 8
                            have hfz52_9 := blk_frozen BK122.out 9
                            go_wp2_with (first | (go_at_call 38; (with_reducible refine (job_zero.calls a1_3 a1_4 _ _ l1_5 t125 _ ?side1 ?side2 A50.out).mono ?_); (case side1 => repeat (first | exact (Kd.C_below HR1_5.out HB.out) | (with_reducible refine Kd.C_alloc ?_ _) | (with_reducible refine Kd.C_drewN ?_ _) | (with_reducible refine Kd.C_drew ?_))); (case side2 => exact HC1_5.out); rintro e w53 ⟨rfl, hb⟩; have n0_ := Aside0.mk (blk_below (g := gb121) (o := .cells #[.slice A0_0 l0_0.length c0_0] 24 (0, 0)) (by (with_reducible repeat (first | refine blk_drewN ?_ _ | refine blk_drew ?_ | refine blk_alloc ?_ _)); exact BK121.out) hb); have n1_ := Aside0.mk (blk_below (g := gb122) (o := .cells #[.int .i64 a1_0, .slice A1_1 l1_1.length c1_1, .int .i64 a1_2, .int .i64 a1_3, .int .i64 a1_4, .slice A1_5 l1_5.length c1_5, .int .i64 a1_6, .int .i64 a1_7, .int .i64 a1_8, .int .i64 a1_9] 38 (0, 0)) (by (with_reducible repeat (first | refine blk_drewN ?_ _ | refine blk_drew ?_ | refine blk_alloc ?_ _)); exact BK122.out) hb); have n2_ := Aside0.mk (below_step (by repeat (first | (with_reducible first | exact HB.out | apply below_alloc | apply pw_below_drewN | apply below_drew1 | refine below_set ?_ GE121.out | refine below_set ?_ GE122.out) | exact HB.out)) hb); clear BK121; clear BK122; clear HB; have BK121 := n0_; have BK122 := n1_; have HB := n2_; clear n0_ n1_ n2_; (try clear hb); (try clear hb2); (try clear hk); (try clear hi)))
                            go_meet
                            case rel => exact ⟨_, (!t125), (by first | rfl | (simp; done) | (simp [*]; done)), H', ⟨by have := HJ2.out; have := HJ13.out; have := HJ19.out; have := HJ28.out; first | omega | exact Nat.le_refl _⟩, ⟨by (with_reducible repeat (first | refine blk_drewN ?_ _ | refine blk_drew ?_ | refine blk_alloc ?_ _)); exact BK121.out⟩, ⟨by (with_reducible repeat (first | refine blk_drewN ?_ _ | refine blk_drew ?_ | refine blk_alloc ?_ _)); exact BK122.out⟩, ⟨by repeat (first | (with_reducible first | exact HB.out | apply below_alloc | apply pw_below_drewN | apply below_drew1 | refine below_set ?_ GE121.out | refine below_set ?_ GE122.out) | exact HB.out)⟩⟩
                        case rest =>
                          clear HC40
                          try clear c1
                          try clear c2
                          try clear p2
                          try clear c3
                          try clear c4
                          try clear c5
                          try clear c6
                          try clear c6b0
                          try clear c6b1
                          try clear c7
                          try clear c9
                          try clear c9b0
                          try clear c9b1
                          try clear c10
                          try clear c12
                          try clear c15
                          try clear c15b0
                          try clear c15b1
                          try clear c16
                          try clear c18
                          try clear c21
                          try clear c21b0
                          try clear c22
                          try clear c24
                          try clear c26
                          try clear c28
                          try clear c30
                          try clear c34
                          try clear c34b0
                          try clear c35
                          try clear c36
                          try clear c37
                          try clear c39
                          try clear c41
                          try clear c43
                          try clear c43b0
                          try clear c43b1
                          try clear c44
                          try clear c47
                          try clear c51
                          try clear hcz11_0
                          try clear hcz11_1
                          try clear hcz11_2
                          try clear hcz11_3
                          try clear hcz11_4
                          try clear hcz11_5
                          try clear hcz11_6
                          try clear hcz11_7
                          try clear hcz11_8
                          try clear hcz11_9
                          try clear hcz13_0
                          try clear hcz13_1
                          try clear hcz13_2
                          try clear hcz13_3
                          try clear hcz13_4
                          try clear hcz13_5
                          try clear hcz13_6
                          try clear hcz13_7
                          try clear hcz13_8
                          try clear hcz13_9
                          try clear hcz17_0
                          try clear hcz17_1
                          try clear hcz17_2
                          try clear hcz17_3
                          try clear hcz17_4
                          try clear hcz17_5
                          try clear hcz17_6
                          try clear hcz17_7
                          try clear hcz17_8
                          try clear hcz17_9
                          try clear hcz19_0
                          try clear hcz19_1
                          try clear hcz19_2
                          try clear hcz19_3
                          try clear hcz19_4
                          try clear hcz19_5
                          try clear hcz19_6
                          try clear hcz19_7
                          try clear hcz19_8
                          try clear hcz19_9
                          try clear hcz23_0
                          try clear hcz23_1
                          try clear hcz23_2
                          try clear hcz23_3
                          try clear hcz23_4
                          try clear hcz23_5
                          try clear hcz23_6
                          try clear hcz23_7
                          try clear hcz23_8
                          try clear hcz23_9
                          try clear hcz25_0
                          try clear hcz25_1
                          try clear hcz25_2
                          try clear hcz25_3
                          try clear hcz25_4
                          try clear hcz25_5
                          try clear hcz25_6
                          try clear hcz25_7
                          try clear hcz25_8
                          try clear hcz25_9
                          try clear hcz31_0
                          try clear hcz32_0
                          try clear hcz32_1
                          try clear hcz32_2
                          try clear hcz32_3
                          try clear hcz32_4
                          try clear hcz32_5
                          try clear hcz32_6
                          try clear hcz32_7
                          try clear hcz32_8
                          try clear hcz32_9
                          try clear hcz36_0
                          try clear hcz36_1
                          try clear hcz36_2
                          try clear hcz36_3
                          try clear hcz36_4
                          try clear hcz36_5
                          try clear hcz36_6
                          try clear hcz36_7
                          try clear hcz36_8
                          try clear hcz36_9
                          try clear hcz38_0
                          try clear hcz38_1
                          try clear hcz38_2
                          try clear hcz38_3
                          try clear hcz38_4
                          try clear hcz38_5
                          try clear hcz38_6
                          try clear hcz38_7
                          try clear hcz38_8
                          try clear hcz38_9
                          try clear hcz45_0
                          try clear hcz45_1
                          try clear hcz45_2
                          try clear hcz45_3
                          try clear hcz45_4
                          try clear hcz45_5
                          try clear hcz45_6
                          try clear hcz45_7
                          try clear hcz45_8
                          try clear hcz45_9
                          try clear hcz48_0
                          try clear hcz48_1
                          try clear hcz48_2
                          try clear hcz48_3
                          try clear hcz48_4
                          try clear hcz48_5
                          try clear hcz48_6
                          try clear hcz48_7
                          try clear hcz48_8
                          try clear hcz48_9
                          try clear hcz52_0
                          try clear hcz52_1
                          try clear hcz52_2
                          try clear hcz52_3
                          try clear hcz52_4
                          try clear hcz52_5
                          try clear hcz52_6
                          try clear hcz52_7
                          try clear hcz52_8
                          try clear hcz52_9
                          try clear hcz8_0
                          try clear hcz8_1
                          try clear hcz8_2
                          try clear hcz8_3
                          try clear hcz8_4
                          try clear hcz8_5
                          try clear hcz8_6
                          try clear hcz8_7
                          try clear hcz8_8
                          try clear hcz8_9
                          try clear hfz11_0
                          try clear hfz11_1
                          try clear hfz11_2
                          try clear hfz11_3
                          try clear hfz11_4
                          try clear hfz11_5
                          try clear hfz11_6
                          try clear hfz11_7
                          try clear hfz11_8
                          try clear hfz11_9
                          try clear hfz13_0
                          try clear hfz13_1
                          try clear hfz13_2
                          try clear hfz13_3
                          try clear hfz13_4
                          try clear hfz13_5
                          try clear hfz13_6
                          try clear hfz13_7
                          try clear hfz13_8
                          try clear hfz13_9
                          try clear hfz17_0
                          try clear hfz17_1
                          try clear hfz17_2
                          try clear hfz17_3
                          try clear hfz17_4
                          try clear hfz17_5
                          try clear hfz17_6
                          try clear hfz17_7
                          try clear hfz17_8
                          try clear hfz17_9
                          try clear hfz19_0
                          try clear hfz19_1
                          try clear hfz19_2
                          try clear hfz19_3
                          try clear hfz19_4
                          try clear hfz19_5
                          try clear hfz19_6
                          try clear hfz19_7
                          try clear hfz19_8
                          try clear hfz19_9
                          try clear hfz23_0
                          try clear hfz23_1
                          try clear hfz23_2
                          try clear hfz23_3
                          try clear hfz23_4
                          try clear hfz23_5
                          try clear hfz23_6
                          try clear hfz23_7
                          try clear hfz23_8
                          try clear hfz23_9
                          try clear hfz25_0
                          try clear hfz25_1
                          try clear hfz25_2
                          try clear hfz25_3
                          try clear hfz25_4
                          try clear hfz25_5
                          try clear hfz25_6
                          try clear hfz25_7
                          try clear hfz25_8
                          try clear hfz25_9
                          try clear hfz31_0
                          try clear hfz32_0
                          try clear hfz32_1
                          try clear hfz32_2
                          try clear hfz32_3
                          try clear hfz32_4
                          try clear hfz32_5
                          try clear hfz32_6
                          try clear hfz32_7
                          try clear hfz32_8
                          try clear hfz32_9
                          try clear hfz36_0
                          try clear hfz36_1
                          try clear hfz36_2
                          try clear hfz36_3
                          try clear hfz36_4
                          try clear hfz36_5
                          try clear hfz36_6
                          try clear hfz36_7
                          try clear hfz36_8
                          try clear hfz36_9
                          try clear hfz38_0
                          try clear hfz38_1
                          try clear hfz38_2
                          try clear hfz38_3
                          try clear hfz38_4
                          try clear hfz38_5
                          try clear hfz38_6
                          try clear hfz38_7
                          try clear hfz38_8
                          try clear hfz38_9
                          try clear hfz45_0
                          try clear hfz45_1
                          try clear hfz45_2
                          try clear hfz45_3
                          try clear hfz45_4
                          try clear hfz45_5
                          try clear hfz45_6
                          try clear hfz45_7
                          try clear hfz45_8
                          try clear hfz45_9
                          try clear hfz48_0
                          try clear hfz48_1
                          try clear hfz48_2
                          try clear hfz48_3
                          try clear hfz48_4
                          try clear hfz48_5
                          try clear hfz48_6
                          try clear hfz48_7
                          try clear hfz48_8
                          try clear hfz48_9
                          try clear hfz52_0
                          try clear hfz52_1
                          try clear hfz52_2
                          try clear hfz52_3
                          try clear hfz52_4
                          try clear hfz52_5
                          try clear hfz52_6
                          try clear hfz52_7
                          try clear hfz52_8
                          try clear hfz52_9
                          try clear hfz8_0
                          try clear hfz8_1
                          try clear hfz8_2
                          try clear hfz8_3
                          try clear hfz8_4
                          try clear hfz8_5
                          try clear hfz8_6
                          try clear hfz8_7
                          try clear hfz8_8
                          try clear hfz8_9
                          try clear p2
                          obtain ⟨kq, x51_39, rfl, HA, HJ39, BK121, BK122, HB⟩ := hcut
                          cases kq with
                          | zero => exact absurd HA.out (by simp [job_node.j4])
                          | succ kj39 =>
                            have H := HA.out
                            clear HA
                            simp only [job_node.j4] at H
                            by_cases c54 : x51_39 = true
                            · subst c54
                              have H1 : (some 85) = some r := by rw [if_pos rfl] at H; exact H
                              clear H
                              have H := H1
                              clear H1
                              obtain rfl := Option.some.inj H
                              go_wp2
                              go_ret
                              exact ⟨by first | rfl | (simp [errW_none, errW_some] <;> rfl) | (simp [*, errW_none, errW_some] <;> rfl), by repeat (first | (with_reducible first | exact HB.out | apply below_alloc | apply pw_below_drewN | apply below_drew1 | refine below_set ?_ GE121.out | refine below_set ?_ GE122.out) | exact HB.out)⟩
                            · replace c54 := Bool.eq_false_iff.mpr c54
                              subst c54
                              have H1 : (if x6_13 = true then (if a1_6 < 1 then (job_node.j5 kj39 true a1_0 l1_1 a1_2 a1_3 a1_4 l1_5 a1_6 a1_7 a1_8 a1_9) else (if a1_6 > 5 then (job_node.j5 kj39 true a1_0 l1_1 a1_2 a1_3 a1_4 l1_5 a1_6 a1_7 a1_8 a1_9) else (job_node.j5 kj39 false a1_0 l1_1 a1_2 a1_3 a1_4 l1_5 a1_6 a1_7 a1_8 a1_9))) else (job_node.j5 kj39 (a1_6 != 0) a1_0 l1_1 a1_2 a1_3 a1_4 l1_5 a1_6 a1_7 a1_8 a1_9)) = some r := by rw [if_neg (show ¬ (false = true) by decide)] at H; exact H
                              clear H
                              have H := H1
                              clear H1
                              have HC55 := Aside0.mk H
                              clear H
                              go_upto_region 11 with (fail)
                              go_cut [69] (fun v69 wc => ∃ (kq : Nat) (x69_54 : Bool), v69 = .bool x69_54 ∧ Aside0 (job_node.j5 kq x69_54 a1_0 l1_1 a1_2 a1_3 a1_4 l1_5 a1_6 a1_7 a1_8 a1_9 = some r) ∧ Aside0 (kq ≤ kj39) ∧ Aside0 (wc.heap[gb121]? = some (.cells #[(.slice A0_0 l0_0.length c0_0)] 24 (0, 0))) ∧ Aside0 (wc.heap[gb122]? = some (.cells #[.int .i64 a1_0, (.slice A1_1 l1_1.length c1_1), .int .i64 a1_2, .int .i64 a1_3, .int .i64 a1_4, (.slice A1_5 l1_5.length c1_5), .int .i64 a1_6, .int .i64 a1_7, .int .i64 a1_8, .int .i64 a1_9] 38 (0, 0))) ∧ Aside0 (Below w.heap.size w wc))
                              case first =>
                                have H := HC55.out
                                clear HC55
                                by_cases c56 : x6_13 = true
                                · subst c56
                                  have H1 : (if a1_6 < 1 then (job_node.j5 kj39 true a1_0 l1_1 a1_2 a1_3 a1_4 l1_5 a1_6 a1_7 a1_8 a1_9) else (if a1_6 > 5 then (job_node.j5 kj39 true a1_0 l1_1 a1_2 a1_3 a1_4 l1_5 a1_6 a1_7 a1_8 a1_9) else (job_node.j5 kj39 false a1_0 l1_1 a1_2 a1_3 a1_4 l1_5 a1_6 a1_7 a1_8 a1_9))) = some r := by rw [if_pos rfl] at H; exact H
                                  clear H
                                  have H := H1
                                  clear H1
                                  by_cases c57 : a1_6 < 1
                                  · rw [if_pos c57] at H
                                    have c57b0 : decide (a1_6 < 1) = true := decide_eq_true c57
                                    clear c57
                                    (first | rw [c57b0] | (simp only [i64_w, i32_w]; rw [c57b0]) | skip)
                                    have H' := Aside0.mk H
                                    clear H
                                    have hnb58 := NB122_121.out
                                    have hnc58 := NB121_122.out
                                    have hcz59_0 : wc.cell? ⟨gb122, 0, none⟩ = some (.int .i64 a1_0) := (blk_cell BK122.out 0).trans rfl
                                    have hcz59_1 : wc.cell? ⟨gb122, 1, none⟩ = some (.slice A1_1 l1_1.length c1_1) := (blk_cell BK122.out 1).trans rfl
                                    have hcz59_2 : wc.cell? ⟨gb122, 2, none⟩ = some (.int .i64 a1_2) := (blk_cell BK122.out 2).trans rfl
                                    have hcz59_3 : wc.cell? ⟨gb122, 3, none⟩ = some (.int .i64 a1_3) := (blk_cell BK122.out 3).trans rfl
                                    have hcz59_4 : wc.cell? ⟨gb122, 4, none⟩ = some (.int .i64 a1_4) := (blk_cell BK122.out 4).trans rfl
                                    have hcz59_5 : wc.cell? ⟨gb122, 5, none⟩ = some (.slice A1_5 l1_5.length c1_5) := (blk_cell BK122.out 5).trans rfl
                                    have hcz59_6 : wc.cell? ⟨gb122, 6, none⟩ = some (.int .i64 a1_6) := (blk_cell BK122.out 6).trans rfl
                                    have hcz59_7 : wc.cell? ⟨gb122, 7, none⟩ = some (.int .i64 a1_7) := (blk_cell BK122.out 7).trans rfl
                                    have hcz59_8 : wc.cell? ⟨gb122, 8, none⟩ = some (.int .i64 a1_8) := (blk_cell BK122.out 8).trans rfl
                                    have hcz59_9 : wc.cell? ⟨gb122, 9, none⟩ = some (.int .i64 a1_9) := (blk_cell BK122.out 9).trans rfl
                                    have hfz59_0 := blk_frozen BK122.out 0
                                    have hfz59_1 := blk_frozen BK122.out 1
                                    have hfz59_2 := blk_frozen BK122.out 2
                                    have hfz59_3 := blk_frozen BK122.out 3
                                    have hfz59_4 := blk_frozen BK122.out 4
                                    have hfz59_5 := blk_frozen BK122.out 5
                                    have hfz59_6 := blk_frozen BK122.out 6
                                    have hfz59_7 := blk_frozen BK122.out 7
                                    have hfz59_8 := blk_frozen BK122.out 8
                                    have hfz59_9 := blk_frozen BK122.out 9
                                    go_wp2
                                    go_meet
                                    case rel => exact ⟨_, (true), (by first | rfl | (simp; done) | (simp [*]; done)), H', ⟨by have := HJ2.out; have := HJ13.out; have := HJ19.out; have := HJ28.out; have := HJ39.out; first | omega | exact Nat.le_refl _⟩, ⟨by (with_reducible repeat (first | refine blk_drewN ?_ _ | refine blk_drew ?_ | refine blk_alloc ?_ _)); exact BK121.out⟩, ⟨by (with_reducible repeat (first | refine blk_drewN ?_ _ | refine blk_drew ?_ | refine blk_alloc ?_ _)); exact BK122.out⟩, ⟨by repeat (first | (with_reducible first | exact HB.out | apply below_alloc | apply pw_below_drewN | apply below_drew1 | refine below_set ?_ GE121.out | refine below_set ?_ GE122.out) | exact HB.out)⟩⟩
                                  · rw [if_neg c57] at H
                                    have c57b0 : decide (a1_6 < 1) = false := decide_eq_false c57
                                    clear c57
                                    (first | rw [c57b0] | (simp only [i64_w, i32_w]; rw [c57b0]) | skip)
                                    by_cases c60 : a1_6 > 5
                                    · rw [if_pos c60] at H
                                      have c60b0 : decide (5 < a1_6) = true := decide_eq_true c60
                                      clear c60
                                      have H' := Aside0.mk H
                                      clear H
                                      have hnb61 := NB122_121.out
                                      have hnc61 := NB121_122.out
                                      have hcz62_0 : wc.cell? ⟨gb122, 0, none⟩ = some (.int .i64 a1_0) := (blk_cell BK122.out 0).trans rfl
                                      have hcz62_1 : wc.cell? ⟨gb122, 1, none⟩ = some (.slice A1_1 l1_1.length c1_1) := (blk_cell BK122.out 1).trans rfl
                                      have hcz62_2 : wc.cell? ⟨gb122, 2, none⟩ = some (.int .i64 a1_2) := (blk_cell BK122.out 2).trans rfl
                                      have hcz62_3 : wc.cell? ⟨gb122, 3, none⟩ = some (.int .i64 a1_3) := (blk_cell BK122.out 3).trans rfl
                                      have hcz62_4 : wc.cell? ⟨gb122, 4, none⟩ = some (.int .i64 a1_4) := (blk_cell BK122.out 4).trans rfl
                                      have hcz62_5 : wc.cell? ⟨gb122, 5, none⟩ = some (.slice A1_5 l1_5.length c1_5) := (blk_cell BK122.out 5).trans rfl
                                      have hcz62_6 : wc.cell? ⟨gb122, 6, none⟩ = some (.int .i64 a1_6) := (blk_cell BK122.out 6).trans rfl
                                      have hcz62_7 : wc.cell? ⟨gb122, 7, none⟩ = some (.int .i64 a1_7) := (blk_cell BK122.out 7).trans rfl
                                      have hcz62_8 : wc.cell? ⟨gb122, 8, none⟩ = some (.int .i64 a1_8) := (blk_cell BK122.out 8).trans rfl
                                      have hcz62_9 : wc.cell? ⟨gb122, 9, none⟩ = some (.int .i64 a1_9) := (blk_cell BK122.out 9).trans rfl
                                      have hfz62_0 := blk_frozen BK122.out 0
                                      have hfz62_1 := blk_frozen BK122.out 1
                                      have hfz62_2 := blk_frozen BK122.out 2
                                      have hfz62_3 := blk_frozen BK122.out 3
                                      have hfz62_4 := blk_frozen BK122.out 4
                                      have hfz62_5 := blk_frozen BK122.out 5
                                      have hfz62_6 := blk_frozen BK122.out 6
                                      have hfz62_7 := blk_frozen BK122.out 7
                                      have hfz62_8 := blk_frozen BK122.out 8
                                      have hfz62_9 := blk_frozen BK122.out 9
                                      go_wp2
                                      go_meet
                                      case rel => exact ⟨_, (true), (by first | rfl | (simp; done) | (simp [*]; done)), H', ⟨by have := HJ2.out; have := HJ13.out; have := HJ19.out; have := HJ28.out; have := HJ39.out; first | omega | exact Nat.le_refl _⟩, ⟨by (with_reducible repeat (first | refine blk_drewN ?_ _ | refine blk_drew ?_ | refine blk_alloc ?_ _)); exact BK121.out⟩, ⟨by (with_reducible repeat (first | refine blk_drewN ?_ _ | refine blk_drew ?_ | refine blk_alloc ?_ _)); exact BK122.out⟩, ⟨by repeat (first | (with_reducible first | exact HB.out | apply below_alloc | apply pw_below_drewN | apply below_drew1 | refine below_set ?_ GE121.out | refine below_set ?_ GE122.out) | exact HB.out)⟩⟩
                                    · rw [if_neg c60] at H
                                      have c60b0 : decide (5 < a1_6) = false := decide_eq_false c60
                                      clear c60
                                      have H' := Aside0.mk H
                                      clear H
                                      have hnb63 := NB122_121.out
                                      have hnc63 := NB121_122.out
                                      have hcz64_0 : wc.cell? ⟨gb122, 0, none⟩ = some (.int .i64 a1_0) := (blk_cell BK122.out 0).trans rfl
                                      have hcz64_1 : wc.cell? ⟨gb122, 1, none⟩ = some (.slice A1_1 l1_1.length c1_1) := (blk_cell BK122.out 1).trans rfl
                                      have hcz64_2 : wc.cell? ⟨gb122, 2, none⟩ = some (.int .i64 a1_2) := (blk_cell BK122.out 2).trans rfl
                                      have hcz64_3 : wc.cell? ⟨gb122, 3, none⟩ = some (.int .i64 a1_3) := (blk_cell BK122.out 3).trans rfl
                                      have hcz64_4 : wc.cell? ⟨gb122, 4, none⟩ = some (.int .i64 a1_4) := (blk_cell BK122.out 4).trans rfl
                                      have hcz64_5 : wc.cell? ⟨gb122, 5, none⟩ = some (.slice A1_5 l1_5.length c1_5) := (blk_cell BK122.out 5).trans rfl
                                      have hcz64_6 : wc.cell? ⟨gb122, 6, none⟩ = some (.int .i64 a1_6) := (blk_cell BK122.out 6).trans rfl
                                      have hcz64_7 : wc.cell? ⟨gb122, 7, none⟩ = some (.int .i64 a1_7) := (blk_cell BK122.out 7).trans rfl
                                      have hcz64_8 : wc.cell? ⟨gb122, 8, none⟩ = some (.int .i64 a1_8) := (blk_cell BK122.out 8).trans rfl
                                      have hcz64_9 : wc.cell? ⟨gb122, 9, none⟩ = some (.int .i64 a1_9) := (blk_cell BK122.out 9).trans rfl
                                      have hfz64_0 := blk_frozen BK122.out 0
                                      have hfz64_1 := blk_frozen BK122.out 1
                                      have hfz64_2 := blk_frozen BK122.out 2
                                      have hfz64_3 := blk_frozen BK122.out 3
                                      have hfz64_4 := blk_frozen BK122.out 4
                                      have hfz64_5 := blk_frozen BK122.out 5
                                      have hfz64_6 := blk_frozen BK122.out 6
                                      have hfz64_7 := blk_frozen BK122.out 7
                                      have hfz64_8 := blk_frozen BK122.out 8
                                      have hfz64_9 := blk_frozen BK122.out 9
                                      go_wp2
                                      go_meet
                                      case rel => exact ⟨_, (false), (by first | rfl | (simp; done) | (simp [*]; done)), H', ⟨by have := HJ2.out; have := HJ13.out; have := HJ19.out; have := HJ28.out; have := HJ39.out; first | omega | exact Nat.le_refl _⟩, ⟨by (with_reducible repeat (first | refine blk_drewN ?_ _ | refine blk_drew ?_ | refine blk_alloc ?_ _)); exact BK121.out⟩, ⟨by (with_reducible repeat (first | refine blk_drewN ?_ _ | refine blk_drew ?_ | refine blk_alloc ?_ _)); exact BK122.out⟩, ⟨by repeat (first | (with_reducible first | exact HB.out | apply below_alloc | apply pw_below_drewN | apply below_drew1 | refine below_set ?_ GE121.out | refine below_set ?_ GE122.out) | exact HB.out)⟩⟩
                                · replace c56 := Bool.eq_false_iff.mpr c56
                                  subst c56
                                  have H1 : (job_node.j5 kj39 (a1_6 != 0) a1_0 l1_1 a1_2 a1_3 a1_4 l1_5 a1_6 a1_7 a1_8 a1_9) = some r := by rw [if_neg (show ¬ (false = true) by decide)] at H; exact H
                                  clear H
                                  have H := H1
                                  clear H1
                                  have H' := Aside0.mk H
                                  clear H
                                  have hnb65 := NB122_121.out
                                  have hnc65 := NB121_122.out
                                  have hcz66_0 : wc.cell? ⟨gb122, 0, none⟩ = some (.int .i64 a1_0) := (blk_cell BK122.out 0).trans rfl
                                  have hcz66_1 : wc.cell? ⟨gb122, 1, none⟩ = some (.slice A1_1 l1_1.length c1_1) := (blk_cell BK122.out 1).trans rfl
                                  have hcz66_2 : wc.cell? ⟨gb122, 2, none⟩ = some (.int .i64 a1_2) := (blk_cell BK122.out 2).trans rfl
                                  have hcz66_3 : wc.cell? ⟨gb122, 3, none⟩ = some (.int .i64 a1_3) := (blk_cell BK122.out 3).trans rfl
                                  have hcz66_4 : wc.cell? ⟨gb122, 4, none⟩ = some (.int .i64 a1_4) := (blk_cell BK122.out 4).trans rfl
                                  have hcz66_5 : wc.cell? ⟨gb122, 5, none⟩ = some (.slice A1_5 l1_5.length c1_5) := (blk_cell BK122.out 5).trans rfl
                                  have hcz66_6 : wc.cell? ⟨gb122, 6, none⟩ = some (.int .i64 a1_6) := (blk_cell BK122.out 6).trans rfl
                                  have hcz66_7 : wc.cell? ⟨gb122, 7, none⟩ = some (.int .i64 a1_7) := (blk_cell BK122.out 7).trans rfl
                                  have hcz66_8 : wc.cell? ⟨gb122, 8, none⟩ = some (.int .i64 a1_8) := (blk_cell BK122.out 8).trans rfl
                                  have hcz66_9 : wc.cell? ⟨gb122, 9, none⟩ = some (.int .i64 a1_9) := (blk_cell BK122.out 9).trans rfl
                                  have hfz66_0 := blk_frozen BK122.out 0
                                  have hfz66_1 := blk_frozen BK122.out 1
                                  have hfz66_2 := blk_frozen BK122.out 2
                                  have hfz66_3 := blk_frozen BK122.out 3
                                  have hfz66_4 := blk_frozen BK122.out 4
                                  have hfz66_5 := blk_frozen BK122.out 5
                                  have hfz66_6 := blk_frozen BK122.out 6
                                  have hfz66_7 := blk_frozen BK122.out 7
                                  have hfz66_8 := blk_frozen BK122.out 8
                                  have hfz66_9 := blk_frozen BK122.out 9
                                  go_wp2
                                  go_meet
                                  case rel => exact ⟨_, ((a1_6 != 0)), (by first | rfl | (simp; done) | (simp [*]; done)), H', ⟨by have := HJ2.out; have := HJ13.out; have := HJ19.out; have := HJ28.out; have := HJ39.out; first | omega | exact Nat.le_refl _⟩, ⟨by (with_reducible repeat (first | refine blk_drewN ?_ _ | refine blk_drew ?_ | refine blk_alloc ?_ _)); exact BK121.out⟩, ⟨by (with_reducible repeat (first | refine blk_drewN ?_ _ | refine blk_drew ?_ | refine blk_alloc ?_ _)); exact BK122.out⟩, ⟨by repeat (first | (with_reducible first | exact HB.out | apply below_alloc | apply pw_below_drewN | apply below_drew1 | refine below_set ?_ GE121.out | refine below_set ?_ GE122.out) | exact HB.out)⟩⟩
                              case rest =>
                                clear HC55
                                try clear c1
                                try clear c2
                                try clear p2
                                try clear c3
                                try clear c4
                                try clear c5
                                try clear c6
                                try clear c6b0
                                try clear c6b1
                                try clear c7
                                try clear c9
                                try clear c9b0
                                try clear c9b1
                                try clear c10
                                try clear c12
                                try clear c15
                                try clear c15b0
                                try clear c15b1
                                try clear c16
                                try clear c18
                                try clear c21
                                try clear c21b0
                                try clear c22
                                try clear c24
                                try clear c26
                                try clear c28
                                try clear c30
                                try clear c34
                                try clear c34b0
                                try clear c35
                                try clear c36
                                try clear c37
                                try clear c39
                                try clear c41
                                try clear c43
                                try clear c43b0
                                try clear c43b1
                                try clear c44
                                try clear c47
                                try clear c51
                                try clear c54
                                try clear c56
                                try clear c57
                                try clear c57b0
                                try clear c58
                                try clear c60
                                try clear c60b0
                                try clear c61
                                try clear c63
                                try clear c65
                                try clear hcz11_0
                                try clear hcz11_1
                                try clear hcz11_2
                                try clear hcz11_3
                                try clear hcz11_4
                                try clear hcz11_5
                                try clear hcz11_6
                                try clear hcz11_7
                                try clear hcz11_8
                                try clear hcz11_9
                                try clear hcz13_0
                                try clear hcz13_1
                                try clear hcz13_2
                                try clear hcz13_3
                                try clear hcz13_4
                                try clear hcz13_5
                                try clear hcz13_6
                                try clear hcz13_7
                                try clear hcz13_8
                                try clear hcz13_9
                                try clear hcz17_0
                                try clear hcz17_1
                                try clear hcz17_2
                                try clear hcz17_3
                                try clear hcz17_4
                                try clear hcz17_5
                                try clear hcz17_6
                                try clear hcz17_7
                                try clear hcz17_8
                                try clear hcz17_9
                                try clear hcz19_0
                                try clear hcz19_1
                                try clear hcz19_2
                                try clear hcz19_3
                                try clear hcz19_4
                                try clear hcz19_5
                                try clear hcz19_6
                                try clear hcz19_7
                                try clear hcz19_8
                                try clear hcz19_9
                                try clear hcz23_0
                                try clear hcz23_1
                                try clear hcz23_2
                                try clear hcz23_3
                                try clear hcz23_4
                                try clear hcz23_5
                                try clear hcz23_6
                                try clear hcz23_7
                                try clear hcz23_8
                                try clear hcz23_9
                                try clear hcz25_0
                                try clear hcz25_1
                                try clear hcz25_2
                                try clear hcz25_3
                                try clear hcz25_4
                                try clear hcz25_5
                                try clear hcz25_6
                                try clear hcz25_7
                                try clear hcz25_8
                                try clear hcz25_9
                                try clear hcz31_0
                                try clear hcz32_0
                                try clear hcz32_1
                                try clear hcz32_2
                                try clear hcz32_3
                                try clear hcz32_4
                                try clear hcz32_5
                                try clear hcz32_6
                                try clear hcz32_7
                                try clear hcz32_8
                                try clear hcz32_9
                                try clear hcz36_0
                                try clear hcz36_1
                                try clear hcz36_2
                                try clear hcz36_3
                                try clear hcz36_4
                                try clear hcz36_5
                                try clear hcz36_6
                                try clear hcz36_7
                                try clear hcz36_8
                                try clear hcz36_9
                                try clear hcz38_0
                                try clear hcz38_1
                                try clear hcz38_2
                                try clear hcz38_3
                                try clear hcz38_4
                                try clear hcz38_5
                                try clear hcz38_6
                                try clear hcz38_7
                                try clear hcz38_8
                                try clear hcz38_9
                                try clear hcz45_0
                                try clear hcz45_1
                                try clear hcz45_2
                                try clear hcz45_3
                                try clear hcz45_4
                                try clear hcz45_5
                                try clear hcz45_6
                                try clear hcz45_7
                                try clear hcz45_8
                                try clear hcz45_9
                                try clear hcz48_0
                                try clear hcz48_1
                                try clear hcz48_2
                                try clear hcz48_3
                                try clear hcz48_4
                                try clear hcz48_5
                                try clear hcz48_6
                                try clear hcz48_7
                                try clear hcz48_8
                                try clear hcz48_9
                                try clear hcz52_0
                                try clear hcz52_1
                                try clear hcz52_2
                                try clear hcz52_3
                                try clear hcz52_4
                                try clear hcz52_5
                                try clear hcz52_6
                                try clear hcz52_7
                                try clear hcz52_8
                                try clear hcz52_9
                                try clear hcz59_0
                                try clear hcz59_1
                                try clear hcz59_2
                                try clear hcz59_3
                                try clear hcz59_4
                                try clear hcz59_5
                                try clear hcz59_6
                                try clear hcz59_7
                                try clear hcz59_8
                                try clear hcz59_9
                                try clear hcz62_0
                                try clear hcz62_1
                                try clear hcz62_2
                                try clear hcz62_3
                                try clear hcz62_4
                                try clear hcz62_5
                                try clear hcz62_6
                                try clear hcz62_7
                                try clear hcz62_8
                                try clear hcz62_9
                                try clear hcz64_0
                                try clear hcz64_1
                                try clear hcz64_2
                                try clear hcz64_3
                                try clear hcz64_4
                                try clear hcz64_5
                                try clear hcz64_6
                                try clear hcz64_7
                                try clear hcz64_8
                                try clear hcz64_9
                                try clear hcz66_0
                                try clear hcz66_1
                                try clear hcz66_2
                                try clear hcz66_3
                                try clear hcz66_4
                                try clear hcz66_5
                                try clear hcz66_6
                                try clear hcz66_7
                                try clear hcz66_8
                                try clear hcz66_9
                                try clear hcz8_0
                                try clear hcz8_1
                                try clear hcz8_2
                                try clear hcz8_3
                                try clear hcz8_4
                                try clear hcz8_5
                                try clear hcz8_6
                                try clear hcz8_7
                                try clear hcz8_8
                                try clear hcz8_9
                                try clear hfz11_0
                                try clear hfz11_1
                                try clear hfz11_2
                                try clear hfz11_3
                                try clear hfz11_4
                                try clear hfz11_5
                                try clear hfz11_6
                                try clear hfz11_7
                                try clear hfz11_8
                                try clear hfz11_9
                                try clear hfz13_0
                                try clear hfz13_1
                                try clear hfz13_2
                                try clear hfz13_3
                                try clear hfz13_4
                                try clear hfz13_5
                                try clear hfz13_6
                                try clear hfz13_7
                                try clear hfz13_8
                                try clear hfz13_9
                                try clear hfz17_0
                                try clear hfz17_1
                                try clear hfz17_2
                                try clear hfz17_3
                                try clear hfz17_4
                                try clear hfz17_5
                                try clear hfz17_6
                                try clear hfz17_7
                                try clear hfz17_8
                                try clear hfz17_9
                                try clear hfz19_0
                                try clear hfz19_1
                                try clear hfz19_2
                                try clear hfz19_3
                                try clear hfz19_4
                                try clear hfz19_5
                                try clear hfz19_6
                                try clear hfz19_7
                                try clear hfz19_8
                                try clear hfz19_9
                                try clear hfz23_0
                                try clear hfz23_1
                                try clear hfz23_2
                                try clear hfz23_3
                                try clear hfz23_4
                                try clear hfz23_5
                                try clear hfz23_6
                                try clear hfz23_7
                                try clear hfz23_8
                                try clear hfz23_9
                                try clear hfz25_0
                                try clear hfz25_1
                                try clear hfz25_2
                                try clear hfz25_3
                                try clear hfz25_4
                                try clear hfz25_5
                                try clear hfz25_6
                                try clear hfz25_7
                                try clear hfz25_8
                                try clear hfz25_9
                                try clear hfz31_0
                                try clear hfz32_0
                                try clear hfz32_1
                                try clear hfz32_2
                                try clear hfz32_3
                                try clear hfz32_4
                                try clear hfz32_5
                                try clear hfz32_6
                                try clear hfz32_7
                                try clear hfz32_8
                                try clear hfz32_9
                                try clear hfz36_0
                                try clear hfz36_1
                                try clear hfz36_2
                                try clear hfz36_3
                                try clear hfz36_4
                                try clear hfz36_5
                                try clear hfz36_6
                                try clear hfz36_7
                                try clear hfz36_8
                                try clear hfz36_9
                                try clear hfz38_0
                                try clear hfz38_1
                                try clear hfz38_2
                                try clear hfz38_3
                                try clear hfz38_4
                                try clear hfz38_5
                                try clear hfz38_6
                                try clear hfz38_7
                                try clear hfz38_8
                                try clear hfz38_9
                                try clear hfz45_0
                                try clear hfz45_1
                                try clear hfz45_2
                                try clear hfz45_3
                                try clear hfz45_4
                                try clear hfz45_5
                                try clear hfz45_6
                                try clear hfz45_7
                                try clear hfz45_8
                                try clear hfz45_9
                                try clear hfz48_0
                                try clear hfz48_1
                                try clear hfz48_2
                                try clear hfz48_3
                                try clear hfz48_4
                                try clear hfz48_5
                                try clear hfz48_6
                                try clear hfz48_7
                                try clear hfz48_8
                                try clear hfz48_9
                                try clear hfz52_0
                                try clear hfz52_1
                                try clear hfz52_2
                                try clear hfz52_3
                                try clear hfz52_4
                                try clear hfz52_5
                                try clear hfz52_6
                                try clear hfz52_7
                                try clear hfz52_8
                                try clear hfz52_9
                                try clear hfz59_0
                                try clear hfz59_1
                                try clear hfz59_2
                                try clear hfz59_3
                                try clear hfz59_4
                                try clear hfz59_5
                                try clear hfz59_6
                                try clear hfz59_7
                                try clear hfz59_8
                                try clear hfz59_9
                                try clear hfz62_0
                                try clear hfz62_1
                                try clear hfz62_2
                                try clear hfz62_3
                                try clear hfz62_4
                                try clear hfz62_5
                                try clear hfz62_6
                                try clear hfz62_7
                                try clear hfz62_8
                                try clear hfz62_9
                                try clear hfz64_0
                                try clear hfz64_1
                                try clear hfz64_2
                                try clear hfz64_3
                                try clear hfz64_4
                                try clear hfz64_5
                                try clear hfz64_6
                                try clear hfz64_7
                                try clear hfz64_8
                                try clear hfz64_9
                                try clear hfz66_0
                                try clear hfz66_1
                                try clear hfz66_2
                                try clear hfz66_3
                                try clear hfz66_4
                                try clear hfz66_5
                                try clear hfz66_6
                                try clear hfz66_7
                                try clear hfz66_8
                                try clear hfz66_9
                                try clear hfz8_0
                                try clear hfz8_1
                                try clear hfz8_2
                                try clear hfz8_3
                                try clear hfz8_4
                                try clear hfz8_5
                                try clear hfz8_6
                                try clear hfz8_7
                                try clear hfz8_8
                                try clear hfz8_9
                                try clear p2
                                obtain ⟨kq, x69_54, rfl, HA, HJ54, BK121, BK122, HB⟩ := hcut
                                cases kq with
                                | zero => exact absurd HA.out (by simp [job_node.j5])
                                | succ kj54 =>
                                  have H := HA.out
                                  clear HA
                                  simp only [job_node.j5] at H
                                  by_cases c67 : x69_54 = true
                                  · subst c67
                                    have H1 : (some 86) = some r := by rw [if_pos rfl] at H; exact H
                                    clear H
                                    have H := H1
                                    clear H1
                                    obtain rfl := Option.some.inj H
                                    go_wp2
                                    go_ret
                                    exact ⟨by first | rfl | (simp [errW_none, errW_some] <;> rfl) | (simp [*, errW_none, errW_some] <;> rfl), by repeat (first | (with_reducible first | exact HB.out | apply below_alloc | apply pw_below_drewN | apply below_drew1 | refine below_set ?_ GE121.out | refine below_set ?_ GE122.out) | exact HB.out)⟩
                                  · replace c67 := Bool.eq_false_iff.mpr c67
                                    subst c67
                                    have H1 : (if a1_0 = 7 then ((job_win.f kj54 a1_7 a1_8 a1_9).bind fun t126 => (if t126 = true then (some 0) else (some 87))) else (if (!(a1_7 == 0) || (!(a1_8 == 0) || (!(a1_9 == 0)))) = true then (some 87) else (some 0))) = some r := by rw [if_neg (show ¬ (false = true) by decide)] at H; exact H
                                    clear H
                                    have H := H1
                                    clear H1
                                    by_cases c68 : a1_0 = 7
                                    · rw [if_pos c68] at H
                                      have c68b0 : (a1_0 == 7) = true := beq_iff_eq.mpr c68
                                      have c68b1 : (a1_0 != 7) = false := bne_eq_false_iff_eq.mpr c68
                                      clear c68
                                      replace H := Option.bind_eq_some_iff.mp H
                                      obtain ⟨t126, A690, H⟩ := H
                                      replace H : (if t126 = true then (some 0) else (some 87)) = some r := H
                                      have A69 := Aside0.mk A690
                                      clear A690
                                      by_cases c70 : t126 = true
                                      · subst c70
                                        have H1 : (some 0) = some r := by rw [if_pos rfl] at H; exact H
                                        clear H
                                        have H := H1
                                        clear H1
                                        obtain rfl := Option.some.inj H
                                        have hnb71 := NB122_121.out
                                        have hnc71 := NB121_122.out
                                        have hcz72_0 : wc.cell? ⟨gb122, 0, none⟩ = some (.int .i64 a1_0) := (blk_cell BK122.out 0).trans rfl
                                        have hcz72_1 : wc.cell? ⟨gb122, 1, none⟩ = some (.slice A1_1 l1_1.length c1_1) := (blk_cell BK122.out 1).trans rfl
                                        have hcz72_2 : wc.cell? ⟨gb122, 2, none⟩ = some (.int .i64 a1_2) := (blk_cell BK122.out 2).trans rfl
                                        have hcz72_3 : wc.cell? ⟨gb122, 3, none⟩ = some (.int .i64 a1_3) := (blk_cell BK122.out 3).trans rfl
                                        have hcz72_4 : wc.cell? ⟨gb122, 4, none⟩ = some (.int .i64 a1_4) := (blk_cell BK122.out 4).trans rfl
                                        have hcz72_5 : wc.cell? ⟨gb122, 5, none⟩ = some (.slice A1_5 l1_5.length c1_5) := (blk_cell BK122.out 5).trans rfl
                                        have hcz72_6 : wc.cell? ⟨gb122, 6, none⟩ = some (.int .i64 a1_6) := (blk_cell BK122.out 6).trans rfl
                                        have hcz72_7 : wc.cell? ⟨gb122, 7, none⟩ = some (.int .i64 a1_7) := (blk_cell BK122.out 7).trans rfl
                                        have hcz72_8 : wc.cell? ⟨gb122, 8, none⟩ = some (.int .i64 a1_8) := (blk_cell BK122.out 8).trans rfl
                                        have hcz72_9 : wc.cell? ⟨gb122, 9, none⟩ = some (.int .i64 a1_9) := (blk_cell BK122.out 9).trans rfl
                                        have hfz72_0 := blk_frozen BK122.out 0
                                        have hfz72_1 := blk_frozen BK122.out 1
                                        have hfz72_2 := blk_frozen BK122.out 2
                                        have hfz72_3 := blk_frozen BK122.out 3
                                        have hfz72_4 := blk_frozen BK122.out 4
                                        have hfz72_5 := blk_frozen BK122.out 5
                                        have hfz72_6 := blk_frozen BK122.out 6
                                        have hfz72_7 := blk_frozen BK122.out 7
                                        have hfz72_8 := blk_frozen BK122.out 8
                                        have hfz72_9 := blk_frozen BK122.out 9
                                        go_wp2_with (first | (go_at_call 39; (with_reducible refine (job_win.calls kj54 a1_7 a1_8 a1_9 true _ A69.out).mono ?_); rintro e w73 ⟨rfl, hb⟩; have n0_ := Aside0.mk (blk_below (g := gb121) (o := .cells #[.slice A0_0 l0_0.length c0_0] 24 (0, 0)) (by (with_reducible repeat (first | refine blk_drewN ?_ _ | refine blk_drew ?_ | refine blk_alloc ?_ _)); exact BK121.out) hb); have n1_ := Aside0.mk (blk_below (g := gb122) (o := .cells #[.int .i64 a1_0, .slice A1_1 l1_1.length c1_1, .int .i64 a1_2, .int .i64 a1_3, .int .i64 a1_4, .slice A1_5 l1_5.length c1_5, .int .i64 a1_6, .int .i64 a1_7, .int .i64 a1_8, .int .i64 a1_9] 38 (0, 0)) (by (with_reducible repeat (first | refine blk_drewN ?_ _ | refine blk_drew ?_ | refine blk_alloc ?_ _)); exact BK122.out) hb); have n2_ := Aside0.mk (below_step (by repeat (first | (with_reducible first | exact HB.out | apply below_alloc | apply pw_below_drewN | apply below_drew1 | refine below_set ?_ GE121.out | refine below_set ?_ GE122.out) | exact HB.out)) hb); clear BK121; clear BK122; clear HB; have BK121 := n0_; have BK122 := n1_; have HB := n2_; clear n0_ n1_ n2_; (try clear hb); (try clear hb2); (try clear hk); (try clear hi); have hcz74_0 : w73.cell? ⟨gb122, 0, none⟩ = some (.int .i64 a1_0) := (blk_cell BK122.out 0).trans rfl; have hcz74_1 : w73.cell? ⟨gb122, 1, none⟩ = some (.slice A1_1 l1_1.length c1_1) := (blk_cell BK122.out 1).trans rfl; have hcz74_2 : w73.cell? ⟨gb122, 2, none⟩ = some (.int .i64 a1_2) := (blk_cell BK122.out 2).trans rfl; have hcz74_3 : w73.cell? ⟨gb122, 3, none⟩ = some (.int .i64 a1_3) := (blk_cell BK122.out 3).trans rfl; have hcz74_4 : w73.cell? ⟨gb122, 4, none⟩ = some (.int .i64 a1_4) := (blk_cell BK122.out 4).trans rfl; have hcz74_5 : w73.cell? ⟨gb122, 5, none⟩ = some (.slice A1_5 l1_5.length c1_5) := (blk_cell BK122.out 5).trans rfl; have hcz74_6 : w73.cell? ⟨gb122, 6, none⟩ = some (.int .i64 a1_6) := (blk_cell BK122.out 6).trans rfl; have hcz74_7 : w73.cell? ⟨gb122, 7, none⟩ = some (.int .i64 a1_7) := (blk_cell BK122.out 7).trans rfl; have hcz74_8 : w73.cell? ⟨gb122, 8, none⟩ = some (.int .i64 a1_8) := (blk_cell BK122.out 8).trans rfl; have hcz74_9 : w73.cell? ⟨gb122, 9, none⟩ = some (.int .i64 a1_9) := (blk_cell BK122.out 9).trans rfl; have hfz74_0 := blk_frozen BK122.out 0; have hfz74_1 := blk_frozen BK122.out 1; have hfz74_2 := blk_frozen BK122.out 2; have hfz74_3 := blk_frozen BK122.out 3; have hfz74_4 := blk_frozen BK122.out 4; have hfz74_5 := blk_frozen BK122.out 5; have hfz74_6 := blk_frozen BK122.out 6; have hfz74_7 := blk_frozen BK122.out 7; have hfz74_8 := blk_frozen BK122.out 8; have hfz74_9 := blk_frozen BK122.out 9))
                                        go_ret
                                        exact ⟨by first | rfl | (simp [errW_none, errW_some] <;> rfl) | (simp [*, errW_none, errW_some] <;> rfl), by repeat (first | (with_reducible first | exact HB.out | apply below_alloc | apply pw_below_drewN | apply below_drew1 | refine below_set ?_ GE121.out | refine below_set ?_ GE122.out) | exact HB.out)⟩
                                      · replace c70 := Bool.eq_false_iff.mpr c70
                                        subst c70
                                        have H1 : (some 87) = some r := by rw [if_neg (show ¬ (false = true) by decide)] at H; exact H
                                        clear H
                                        have H := H1
                                        clear H1
                                        obtain rfl := Option.some.inj H
                                        have hnb75 := NB122_121.out
                                        have hnc75 := NB121_122.out
                                        have hcz76_0 : wc.cell? ⟨gb122, 0, none⟩ = some (.int .i64 a1_0) := (blk_cell BK122.out 0).trans rfl
                                        have hcz76_1 : wc.cell? ⟨gb122, 1, none⟩ = some (.slice A1_1 l1_1.length c1_1) := (blk_cell BK122.out 1).trans rfl
                                        have hcz76_2 : wc.cell? ⟨gb122, 2, none⟩ = some (.int .i64 a1_2) := (blk_cell BK122.out 2).trans rfl
                                        have hcz76_3 : wc.cell? ⟨gb122, 3, none⟩ = some (.int .i64 a1_3) := (blk_cell BK122.out 3).trans rfl
                                        have hcz76_4 : wc.cell? ⟨gb122, 4, none⟩ = some (.int .i64 a1_4) := (blk_cell BK122.out 4).trans rfl
                                        have hcz76_5 : wc.cell? ⟨gb122, 5, none⟩ = some (.slice A1_5 l1_5.length c1_5) := (blk_cell BK122.out 5).trans rfl
                                        have hcz76_6 : wc.cell? ⟨gb122, 6, none⟩ = some (.int .i64 a1_6) := (blk_cell BK122.out 6).trans rfl
                                        have hcz76_7 : wc.cell? ⟨gb122, 7, none⟩ = some (.int .i64 a1_7) := (blk_cell BK122.out 7).trans rfl
                                        have hcz76_8 : wc.cell? ⟨gb122, 8, none⟩ = some (.int .i64 a1_8) := (blk_cell BK122.out 8).trans rfl
                                        have hcz76_9 : wc.cell? ⟨gb122, 9, none⟩ = some (.int .i64 a1_9) := (blk_cell BK122.out 9).trans rfl
                                        have hfz76_0 := blk_frozen BK122.out 0
                                        have hfz76_1 := blk_frozen BK122.out 1
                                        have hfz76_2 := blk_frozen BK122.out 2
                                        have hfz76_3 := blk_frozen BK122.out 3
                                        have hfz76_4 := blk_frozen BK122.out 4
                                        have hfz76_5 := blk_frozen BK122.out 5
                                        have hfz76_6 := blk_frozen BK122.out 6
                                        have hfz76_7 := blk_frozen BK122.out 7
                                        have hfz76_8 := blk_frozen BK122.out 8
                                        have hfz76_9 := blk_frozen BK122.out 9
                                        go_wp2_with (first | (go_at_call 39; (with_reducible refine (job_win.calls kj54 a1_7 a1_8 a1_9 false _ A69.out).mono ?_); rintro e w77 ⟨rfl, hb⟩; have n0_ := Aside0.mk (blk_below (g := gb121) (o := .cells #[.slice A0_0 l0_0.length c0_0] 24 (0, 0)) (by (with_reducible repeat (first | refine blk_drewN ?_ _ | refine blk_drew ?_ | refine blk_alloc ?_ _)); exact BK121.out) hb); have n1_ := Aside0.mk (blk_below (g := gb122) (o := .cells #[.int .i64 a1_0, .slice A1_1 l1_1.length c1_1, .int .i64 a1_2, .int .i64 a1_3, .int .i64 a1_4, .slice A1_5 l1_5.length c1_5, .int .i64 a1_6, .int .i64 a1_7, .int .i64 a1_8, .int .i64 a1_9] 38 (0, 0)) (by (with_reducible repeat (first | refine blk_drewN ?_ _ | refine blk_drew ?_ | refine blk_alloc ?_ _)); exact BK122.out) hb); have n2_ := Aside0.mk (below_step (by repeat (first | (with_reducible first | exact HB.out | apply below_alloc | apply pw_below_drewN | apply below_drew1 | refine below_set ?_ GE121.out | refine below_set ?_ GE122.out) | exact HB.out)) hb); clear BK121; clear BK122; clear HB; have BK121 := n0_; have BK122 := n1_; have HB := n2_; clear n0_ n1_ n2_; (try clear hb); (try clear hb2); (try clear hk); (try clear hi)))
                                        go_ret
                                        exact ⟨by first | rfl | (simp [errW_none, errW_some] <;> rfl) | (simp [*, errW_none, errW_some] <;> rfl), by repeat (first | (with_reducible first | exact HB.out | apply below_alloc | apply pw_below_drewN | apply below_drew1 | refine below_set ?_ GE121.out | refine below_set ?_ GE122.out) | exact HB.out)⟩
                                    · rw [if_neg c68] at H
                                      have c68b0 : (a1_0 == 7) = false := beq_eq_false_iff_ne.mpr c68
                                      have c68b1 : (a1_0 != 7) = true := bne_iff_ne.mpr c68
                                      by_cases c78 : (!(a1_7 == 0) || (!(a1_8 == 0) || (!(a1_9 == 0)))) = true
                                      · rw [if_pos c78] at H
                                        have c78b0 : (!(a1_7 == 0) || (!(a1_8 == 0) || (!(a1_9 == 0)))) = true := c78
                                        clear c78
                                        obtain rfl := Option.some.inj H
                                        have hnb79 := NB122_121.out
                                        have hnc79 := NB121_122.out
                                        have hcz80_0 : wc.cell? ⟨gb122, 0, none⟩ = some (.int .i64 a1_0) := (blk_cell BK122.out 0).trans rfl
                                        have hcz80_1 : wc.cell? ⟨gb122, 1, none⟩ = some (.slice A1_1 l1_1.length c1_1) := (blk_cell BK122.out 1).trans rfl
                                        have hcz80_2 : wc.cell? ⟨gb122, 2, none⟩ = some (.int .i64 a1_2) := (blk_cell BK122.out 2).trans rfl
                                        have hcz80_3 : wc.cell? ⟨gb122, 3, none⟩ = some (.int .i64 a1_3) := (blk_cell BK122.out 3).trans rfl
                                        have hcz80_4 : wc.cell? ⟨gb122, 4, none⟩ = some (.int .i64 a1_4) := (blk_cell BK122.out 4).trans rfl
                                        have hcz80_5 : wc.cell? ⟨gb122, 5, none⟩ = some (.slice A1_5 l1_5.length c1_5) := (blk_cell BK122.out 5).trans rfl
                                        have hcz80_6 : wc.cell? ⟨gb122, 6, none⟩ = some (.int .i64 a1_6) := (blk_cell BK122.out 6).trans rfl
                                        have hcz80_7 : wc.cell? ⟨gb122, 7, none⟩ = some (.int .i64 a1_7) := (blk_cell BK122.out 7).trans rfl
                                        have hcz80_8 : wc.cell? ⟨gb122, 8, none⟩ = some (.int .i64 a1_8) := (blk_cell BK122.out 8).trans rfl
                                        have hcz80_9 : wc.cell? ⟨gb122, 9, none⟩ = some (.int .i64 a1_9) := (blk_cell BK122.out 9).trans rfl
                                        have hfz80_0 := blk_frozen BK122.out 0
                                        have hfz80_1 := blk_frozen BK122.out 1
                                        have hfz80_2 := blk_frozen BK122.out 2
                                        have hfz80_3 := blk_frozen BK122.out 3
                                        have hfz80_4 := blk_frozen BK122.out 4
                                        have hfz80_5 := blk_frozen BK122.out 5
                                        have hfz80_6 := blk_frozen BK122.out 6
                                        have hfz80_7 := blk_frozen BK122.out 7
                                        have hfz80_8 := blk_frozen BK122.out 8
                                        have hfz80_9 := blk_frozen BK122.out 9
                                        go_wp2
                                        go_ret
                                        exact ⟨by first | rfl | (simp [errW_none, errW_some] <;> rfl) | (simp [*, errW_none, errW_some] <;> rfl), by repeat (first | (with_reducible first | exact HB.out | apply below_alloc | apply pw_below_drewN | apply below_drew1 | refine below_set ?_ GE121.out | refine below_set ?_ GE122.out) | exact HB.out)⟩
                                      · rw [if_neg c78] at H
                                        have c78b0 : (!(a1_7 == 0) || (!(a1_8 == 0) || (!(a1_9 == 0)))) = false := by simpa using c78
                                        clear c78
                                        obtain rfl := Option.some.inj H
                                        have hnb81 := NB122_121.out
                                        have hnc81 := NB121_122.out
                                        have hcz82_0 : wc.cell? ⟨gb122, 0, none⟩ = some (.int .i64 a1_0) := (blk_cell BK122.out 0).trans rfl
                                        have hcz82_1 : wc.cell? ⟨gb122, 1, none⟩ = some (.slice A1_1 l1_1.length c1_1) := (blk_cell BK122.out 1).trans rfl
                                        have hcz82_2 : wc.cell? ⟨gb122, 2, none⟩ = some (.int .i64 a1_2) := (blk_cell BK122.out 2).trans rfl
                                        have hcz82_3 : wc.cell? ⟨gb122, 3, none⟩ = some (.int .i64 a1_3) := (blk_cell BK122.out 3).trans rfl
                                        have hcz82_4 : wc.cell? ⟨gb122, 4, none⟩ = some (.int .i64 a1_4) := (blk_cell BK122.out 4).trans rfl
                                        have hcz82_5 : wc.cell? ⟨gb122, 5, none⟩ = some (.slice A1_5 l1_5.length c1_5) := (blk_cell BK122.out 5).trans rfl
                                        have hcz82_6 : wc.cell? ⟨gb122, 6, none⟩ = some (.int .i64 a1_6) := (blk_cell BK122.out 6).trans rfl
                                        have hcz82_7 : wc.cell? ⟨gb122, 7, none⟩ = some (.int .i64 a1_7) := (blk_cell BK122.out 7).trans rfl
                                        have hcz82_8 : wc.cell? ⟨gb122, 8, none⟩ = some (.int .i64 a1_8) := (blk_cell BK122.out 8).trans rfl
                                        have hcz82_9 : wc.cell? ⟨gb122, 9, none⟩ = some (.int .i64 a1_9) := (blk_cell BK122.out 9).trans rfl
                                        have hfz82_0 := blk_frozen BK122.out 0
                                        have hfz82_1 := blk_frozen BK122.out 1
                                        have hfz82_2 := blk_frozen BK122.out 2
                                        have hfz82_3 := blk_frozen BK122.out 3
                                        have hfz82_4 := blk_frozen BK122.out 4
                                        have hfz82_5 := blk_frozen BK122.out 5
                                        have hfz82_6 := blk_frozen BK122.out 6
                                        have hfz82_7 := blk_frozen BK122.out 7
                                        have hfz82_8 := blk_frozen BK122.out 8
                                        have hfz82_9 := blk_frozen BK122.out 9
                                        go_wp2
                                        go_ret
                                        exact ⟨by first | rfl | (simp [errW_none, errW_some] <;> rfl) | (simp [*, errW_none, errW_some] <;> rfl), by repeat (first | (with_reducible first | exact HB.out | apply below_alloc | apply pw_below_drewN | apply below_drew1 | refine below_set ?_ GE121.out | refine below_set ?_ GE122.out) | exact HB.out)⟩
                · replace c28 := Bool.eq_false_iff.mpr c28
                  subst c28
                  have H1 : (some 82) = some r := by rw [if_neg (show ¬ (false = true) by decide)] at H; exact H
                  clear H
                  have H := H1
                  clear H1
                  obtain rfl := Option.some.inj H
                  have hnb83 := NB121_122.out
                  have hnc83 := NB122_121.out
                  have hcz84_0 : wc.cell? ⟨gb121, 0, none⟩ = some (.slice A0_0 l0_0.length c0_0) := (blk_cell BK121.out 0).trans rfl
                  have hfz84_0 := blk_frozen BK121.out 0
                  have hcz85_0 : wc.cell? ⟨gb122, 0, none⟩ = some (.int .i64 a1_0) := (blk_cell BK122.out 0).trans rfl
                  have hcz85_1 : wc.cell? ⟨gb122, 1, none⟩ = some (.slice A1_1 l1_1.length c1_1) := (blk_cell BK122.out 1).trans rfl
                  have hcz85_2 : wc.cell? ⟨gb122, 2, none⟩ = some (.int .i64 a1_2) := (blk_cell BK122.out 2).trans rfl
                  have hcz85_3 : wc.cell? ⟨gb122, 3, none⟩ = some (.int .i64 a1_3) := (blk_cell BK122.out 3).trans rfl
                  have hcz85_4 : wc.cell? ⟨gb122, 4, none⟩ = some (.int .i64 a1_4) := (blk_cell BK122.out 4).trans rfl
                  have hcz85_5 : wc.cell? ⟨gb122, 5, none⟩ = some (.slice A1_5 l1_5.length c1_5) := (blk_cell BK122.out 5).trans rfl
                  have hcz85_6 : wc.cell? ⟨gb122, 6, none⟩ = some (.int .i64 a1_6) := (blk_cell BK122.out 6).trans rfl
                  have hcz85_7 : wc.cell? ⟨gb122, 7, none⟩ = some (.int .i64 a1_7) := (blk_cell BK122.out 7).trans rfl
                  have hcz85_8 : wc.cell? ⟨gb122, 8, none⟩ = some (.int .i64 a1_8) := (blk_cell BK122.out 8).trans rfl
                  have hcz85_9 : wc.cell? ⟨gb122, 9, none⟩ = some (.int .i64 a1_9) := (blk_cell BK122.out 9).trans rfl
                  have hfz85_0 := blk_frozen BK122.out 0
                  have hfz85_1 := blk_frozen BK122.out 1
                  have hfz85_2 := blk_frozen BK122.out 2
                  have hfz85_3 := blk_frozen BK122.out 3
                  have hfz85_4 := blk_frozen BK122.out 4
                  have hfz85_5 := blk_frozen BK122.out 5
                  have hfz85_6 := blk_frozen BK122.out 6
                  have hfz85_7 := blk_frozen BK122.out 7
                  have hfz85_8 := blk_frozen BK122.out 8
                  have hfz85_9 := blk_frozen BK122.out 9
                  go_wp2_with (first | ((with_reducible refine gate_callee (f := 36) rfl ?_); refine goesL_ (some 40) rfl rfl Try.func36 (by kernel_rfl) rfl #[.agg #[.slice A0_0 l0_0.length c0_0], .agg #[.int .i64 a1_0, .slice A1_1 l1_1.length c1_1, .int .i64 a1_2, .int .i64 a1_3, .int .i64 a1_4, .slice A1_5 l1_5.length c1_5, .int .i64 a1_6, .int .i64 a1_7, .int .i64 a1_8, .int .i64 a1_9]] rfl (by (try simp only [List.map_toArray, List.map_cons, List.map_nil]); first | done | rfl | (simp only [List.length_drop, List.length_take]; rfl)) ?_; (with_reducible refine (job_inputs.calls _ _ l0_0 a1_0 _ _ l1_1 a1_2 a1_3 a1_4 _ _ l1_5 a1_6 a1_7 a1_8 a1_9 false _ ?side1 ?side2 ?side3 ?side4 ?side5 ?side6 A27.out).mono ?_); (case side1 => repeat (first | exact (Kd.C_below HR0_0.out HB.out) | (with_reducible refine Kd.C_alloc ?_ _) | (with_reducible refine Kd.C_drewN ?_ _) | (with_reducible refine Kd.C_drew ?_))); (case side2 => exact HC0_0.out); (case side3 => repeat (first | exact (Kd.C_below HR1_1.out HB.out) | (with_reducible refine Kd.C_alloc ?_ _) | (with_reducible refine Kd.C_drewN ?_ _) | (with_reducible refine Kd.C_drew ?_))); (case side4 => exact HC1_1.out); (case side5 => repeat (first | exact (Kd.C_below HR1_5.out HB.out) | (with_reducible refine Kd.C_alloc ?_ _) | (with_reducible refine Kd.C_drewN ?_ _) | (with_reducible refine Kd.C_drew ?_))); (case side6 => exact HC1_5.out); rintro e w86 ⟨rfl, hb⟩; refine ⟨_, rfl, ?_⟩; have n0_ := Aside0.mk (blk_below (g := gb121) (o := .cells #[.slice A0_0 l0_0.length c0_0] 24 (0, 0)) (by (with_reducible repeat (first | refine blk_drewN ?_ _ | refine blk_drew ?_ | refine blk_alloc ?_ _)); exact BK121.out) hb); have n1_ := Aside0.mk (blk_below (g := gb122) (o := .cells #[.int .i64 a1_0, .slice A1_1 l1_1.length c1_1, .int .i64 a1_2, .int .i64 a1_3, .int .i64 a1_4, .slice A1_5 l1_5.length c1_5, .int .i64 a1_6, .int .i64 a1_7, .int .i64 a1_8, .int .i64 a1_9] 38 (0, 0)) (by (with_reducible repeat (first | refine blk_drewN ?_ _ | refine blk_drew ?_ | refine blk_alloc ?_ _)); exact BK122.out) hb); have n2_ := Aside0.mk (below_step (by repeat (first | (with_reducible first | exact HB.out | apply below_alloc | apply pw_below_drewN | apply below_drew1 | refine below_set ?_ GE121.out | refine below_set ?_ GE122.out) | exact HB.out)) hb); clear BK121; clear BK122; clear HB; have BK121 := n0_; have BK122 := n1_; have HB := n2_; clear n0_ n1_ n2_; (try clear hb); (try clear hb2); (try clear hk); (try clear hi)))
                  go_ret
                  exact ⟨by first | rfl | (simp [errW_none, errW_some] <;> rfl) | (simp [*, errW_none, errW_some] <;> rfl), by repeat (first | (with_reducible first | exact HB.out | apply below_alloc | apply pw_below_drewN | apply below_drew1 | refine below_set ?_ GE121.out | refine below_set ?_ GE122.out) | exact HB.out)⟩

end Go.Proofs.Ytpbmfdbfimcpjaa.X
