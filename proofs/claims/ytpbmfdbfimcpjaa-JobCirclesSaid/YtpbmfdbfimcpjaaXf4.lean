-- written by wip/myprint.py out of the translation
import Derived.Test.YtpbmfdbfimcpjaaXt
import Derived.Test.YtpbmfdbfimcpjaaXf8
import Derived.Test.YtpbmfdbfimcpjaaXf11
import Derived.Test.YtpbmfdbfimcpjaaXf6
import Derived.Test.YtpbmfdbfimcpjaaXf10
import Derived.Test.YtpbmfdbfimcpjaaO
namespace Go.Proofs.Ytpbmfdbfimcpjaa.X
open Go.RowKit Go.Proofs.YtpbmfdbfimcpjaaW.PrintWords Go.Proofs.YtpbmfdbfimcpjaaW.PrintLast Go.Proofs.YtpbmfdbfimcpjaaW.PrintMore
attribute [local go_sem] max2_int min2_int max_two min_two max_three min_three max_four min_four   -- for this text's walks alone
set_option linter.unusedVariables false
set_option linter.unusedSimpArgs false

/-! ### leatlaw8_JobCircles: function 4 -/
mutual
def leatlaw8_JobCircles.j0 : Nat → Int → Int → Int → Option (Bool)
  | 0, _, _, _ => none
  | k + 1, x0, x1, x2 => leatlaw8_JobCircles.l0 k x0 x1 x2 0 (([(⟨1, ([] : List Int), 1, (⟨0, 0, ([] : List (S34))⟩ : S34), 0, (⟨0, 0, 0⟩ : S36)⟩ : S38)] : List (S38)))
def leatlaw8_JobCircles.l0 : Nat → Int → Int → Int → Int → List (S38) → Option (Bool)
  | 0, _, _, _, _, _ => none
  | k + 1, x0, x1, x2, x8, x257000 => if x8 < x0 then (if x257000.length < 1256584717458 then (leatlaw8_JobCircles.l0 k x0 x1 x2 (wrap64 (x8 + 1)) (x257000 ++ [(⟨5, (([x8] : List Int)), 2, (⟨0, 0, ([] : List (S34))⟩ : S34), 0, (⟨0, 0, 0⟩ : S36)⟩ : S38)])) else (none)) else (if x257000.length < 1256584717458 then ((some (x257000 ++ [(⟨8, (([x0] : List Int)), 1, (⟨0, 0, ([] : List (S34))⟩ : S34), 0, (⟨0, 0, 0⟩ : S36)⟩ : S38)] : List (S38))).bind fun y266 => ((job_Check.f k y266).bind fun t269 => (if t269 = 0 then ((job_Order.f y266).bind fun t270 => (leatlaw8_JobCircles.j2 k x1 x2 ((t270.length : Int) != (wrap64 (x0 + 2))) y266)) else (leatlaw8_JobCircles.j2 k x1 x2 true y266)))) else (none))
def leatlaw8_JobCircles.j2 : Nat → Int → Int → Bool → List (S38) → Option (Bool)
  | 0, _, _, _, _ => none
  | k + 1, x1, x2, x60, x257000 => if x60 = true then (none) else (if 0 ≤ (wrap64 (1 + x2)) then (if (wrap64 (1 + x2)) < (x257000.length : Int) then ((some (x257000.set ((wrap64 (1 + x2)) : Int).toNat (⟨(rd_T38 x257000 (wrap64 (1 + x2))).f0, (([x2, wrap64 (1 + x1)] : List Int)), (rd_T38 x257000 (wrap64 (1 + x2))).f2, (⟨(rd_T38 x257000 (wrap64 (1 + x2))).f3.f0, (rd_T38 x257000 (wrap64 (1 + x2))).f3.f1, (rd_T38 x257000 (wrap64 (1 + x2))).f3.f2⟩ : S34), (rd_T38 x257000 (wrap64 (1 + x2))).f4, (⟨(rd_T38 x257000 (wrap64 (1 + x2))).f5.f0, (rd_T38 x257000 (wrap64 (1 + x2))).f5.f1, (rd_T38 x257000 (wrap64 (1 + x2))).f5.f2⟩ : S36)⟩ : S38) : List (S38))).bind fun y276 => ((job_Order.f y276).bind fun t277 => ((job_Check.f k y276).bind fun t280 => (if t280 = 83 then (if (t277.length : Int) = (wrap64 (1 + x2)) then ((job_Weights.f k y276).bind fun t281 => (some ((t281.length : Int) == 0))) else (none)) else (none))))) else (none)) else (none))
end
def leatlaw8_JobCircles.f (k : Nat) (a0 : Int) (a1 : Int) (a2 : Int) : Option (Bool) := (leatlaw8_known.f k).bind fun t249 => (if t249 = true then ((leathelp_Place.f a0 8).bind fun t250 => ((leathelp_Place.f a1 (wrap64 (1 + t250))).bind fun t251 => ((leathelp_Place.f a2 (wrap64 (1 + t250))).bind fun t252 => (if t252 > t251 then (leatlaw8_JobCircles.j0 k (wrap64 (1 + t250)) t252 t251) else (leatlaw8_JobCircles.j0 k (wrap64 (1 + t250)) t251 t252))))) else (none))
theorem leatlaw8_JobCircles.mono_l : ∀ k, (∀ y0 y1 y2, LeO (leatlaw8_JobCircles.j0 k y0 y1 y2) (leatlaw8_JobCircles.j0 (k + 1) y0 y1 y2)) ∧ (∀ y0 y1 y2 y3 y4, LeO (leatlaw8_JobCircles.l0 k y0 y1 y2 y3 y4) (leatlaw8_JobCircles.l0 (k + 1) y0 y1 y2 y3 y4)) ∧ (∀ y0 y1 y2 y3, LeO (leatlaw8_JobCircles.j2 k y0 y1 y2 y3) (leatlaw8_JobCircles.j2 (k + 1) y0 y1 y2 y3))
  | 0 => ⟨fun _ _ _ r h => by simp [leatlaw8_JobCircles.j0] at h, fun _ _ _ _ _ r h => by simp [leatlaw8_JobCircles.l0] at h, fun _ _ _ _ r h => by simp [leatlaw8_JobCircles.j2] at h⟩
  | k + 1 => by
    obtain ⟨ih0, ih1, ih2⟩ := leatlaw8_JobCircles.mono_l k
    refine ⟨?_, ?_, ?_⟩
    · intro y0 y1 y2
      unfold leatlaw8_JobCircles.j0
      repeat' first
      | (with_reducible exact ih0 _ _ _)
      | (with_reducible exact ih1 _ _ _ _ _)
      | (with_reducible exact ih2 _ _ _ _)
      | (with_reducible exact job_Check.mono _ _)
      | (with_reducible exact job_Weights.mono _ _)
      | (with_reducible exact leatlaw8_known.mono _)
      | (with_reducible exact LeO.refl _)
      | (with_reducible exact LeO.none _)
      | (with_reducible refine LeO.ite ?_ ?_)
      | (with_reducible refine LeO.bind ?_ (fun _ => ?_))
      | exact ih0 _ _ _
      | exact ih1 _ _ _ _ _
      | exact ih2 _ _ _ _
      | exact job_Check.mono _ _
      | exact job_Weights.mono _ _
      | exact leatlaw8_known.mono _
      | exact LeO.none _
      | refine LeO.ite ?_ ?_
      | refine LeO.bind ?_ (fun _ => ?_)
    · intro y0 y1 y2 y3 y4
      unfold leatlaw8_JobCircles.l0
      repeat' first
      | (with_reducible exact ih0 _ _ _)
      | (with_reducible exact ih1 _ _ _ _ _)
      | (with_reducible exact ih2 _ _ _ _)
      | (with_reducible exact job_Check.mono _ _)
      | (with_reducible exact job_Weights.mono _ _)
      | (with_reducible exact leatlaw8_known.mono _)
      | (with_reducible exact LeO.refl _)
      | (with_reducible exact LeO.none _)
      | (with_reducible refine LeO.ite ?_ ?_)
      | (with_reducible refine LeO.bind ?_ (fun _ => ?_))
      | exact ih0 _ _ _
      | exact ih1 _ _ _ _ _
      | exact ih2 _ _ _ _
      | exact job_Check.mono _ _
      | exact job_Weights.mono _ _
      | exact leatlaw8_known.mono _
      | exact LeO.none _
      | refine LeO.ite ?_ ?_
      | refine LeO.bind ?_ (fun _ => ?_)
    · intro y0 y1 y2 y3
      unfold leatlaw8_JobCircles.j2
      repeat' first
      | (with_reducible exact ih0 _ _ _)
      | (with_reducible exact ih1 _ _ _ _ _)
      | (with_reducible exact ih2 _ _ _ _)
      | (with_reducible exact job_Check.mono _ _)
      | (with_reducible exact job_Weights.mono _ _)
      | (with_reducible exact leatlaw8_known.mono _)
      | (with_reducible exact LeO.refl _)
      | (with_reducible exact LeO.none _)
      | (with_reducible refine LeO.ite ?_ ?_)
      | (with_reducible refine LeO.bind ?_ (fun _ => ?_))
      | exact ih0 _ _ _
      | exact ih1 _ _ _ _ _
      | exact ih2 _ _ _ _
      | exact job_Check.mono _ _
      | exact job_Weights.mono _ _
      | exact leatlaw8_known.mono _
      | exact LeO.none _
      | refine LeO.ite ?_ ?_
      | refine LeO.bind ?_ (fun _ => ?_)
theorem leatlaw8_JobCircles.mono : ∀ a0 a1 a2 k, LeO (leatlaw8_JobCircles.f k a0 a1 a2) (leatlaw8_JobCircles.f (k + 1) a0 a1 a2) := by
  intro a0 a1 a2 k
  obtain ⟨ih0, ih1, ih2⟩ := leatlaw8_JobCircles.mono_l k
  unfold leatlaw8_JobCircles.f
  repeat' first
      | (with_reducible exact ih0 _ _ _)
      | (with_reducible exact ih1 _ _ _ _ _)
      | (with_reducible exact ih2 _ _ _ _)
      | (with_reducible exact job_Check.mono _ _)
      | (with_reducible exact job_Weights.mono _ _)
      | (with_reducible exact leatlaw8_known.mono _)
      | (with_reducible exact LeO.refl _)
      | (with_reducible exact LeO.none _)
      | (with_reducible refine LeO.ite ?_ ?_)
      | (with_reducible refine LeO.bind ?_ (fun _ => ?_))
      | exact ih0 _ _ _
      | exact ih1 _ _ _ _ _
      | exact ih2 _ _ _ _
      | exact job_Check.mono _ _
      | exact job_Weights.mono _ _
      | exact leatlaw8_known.mono _
      | exact LeO.none _
      | refine LeO.ite ?_ ?_
      | refine LeO.bind ?_ (fun _ => ?_)
set_option maxHeartbeats 8000000 in
set_option maxRecDepth 100000 in
theorem leatlaw8_JobCircles.calls (k : Nat) (a0 : Int) (a1 : Int) (a2 : Int) (r : Bool) (w : World) (h : leatlaw8_JobCircles.f k a0 a1 a2 = some r) :
    Calls Try.prog 4 #[.int .i64 a0, .int .i64 a1, .int .i64 a2] w fun e w' => e = .returned (.bool r) ∧ Below w.heap.size w w' := by
  have hu38 := Try.underlying38
  have hu24 := Try.underlying24
  have HB := Aside0.mk (Below.refl w.heap.size w)
  have H : ((leatlaw8_known.f k).bind fun t249 => (if t249 = true then ((leathelp_Place.f a0 8).bind fun t250 => ((leathelp_Place.f a1 (wrap64 (1 + t250))).bind fun t251 => ((leathelp_Place.f a2 (wrap64 (1 + t250))).bind fun t252 => (if t252 > t251 then (leatlaw8_JobCircles.j0 k (wrap64 (1 + t250)) t252 t251) else (leatlaw8_JobCircles.j0 k (wrap64 (1 + t250)) t251 t252))))) else (none))) = some r := h
  clear h
  replace H := Option.bind_eq_some_iff.mp H
  obtain ⟨t249, A40, H⟩ := H
  replace H : (if t249 = true then ((leathelp_Place.f a0 8).bind fun t250 => ((leathelp_Place.f a1 (wrap64 (1 + t250))).bind fun t251 => ((leathelp_Place.f a2 (wrap64 (1 + t250))).bind fun t252 => (if t252 > t251 then (leatlaw8_JobCircles.j0 k (wrap64 (1 + t250)) t252 t251) else (leatlaw8_JobCircles.j0 k (wrap64 (1 + t250)) t251 t252))))) else (none)) = some r := H
  have A4 := Aside0.mk A40
  clear A40
  by_cases c5 : t249 = true
  · subst c5
    have H1 : ((leathelp_Place.f a0 8).bind fun t250 => ((leathelp_Place.f a1 (wrap64 (1 + t250))).bind fun t251 => ((leathelp_Place.f a2 (wrap64 (1 + t250))).bind fun t252 => (if t252 > t251 then (leatlaw8_JobCircles.j0 k (wrap64 (1 + t250)) t252 t251) else (leatlaw8_JobCircles.j0 k (wrap64 (1 + t250)) t251 t252))))) = some r := by rw [if_pos rfl] at H; exact H
    clear H
    have H := H1
    clear H1
    replace H := Option.bind_eq_some_iff.mp H
    obtain ⟨t250, A60, H⟩ := H
    replace H : ((leathelp_Place.f a1 (wrap64 (1 + t250))).bind fun t251 => ((leathelp_Place.f a2 (wrap64 (1 + t250))).bind fun t252 => (if t252 > t251 then (leatlaw8_JobCircles.j0 k (wrap64 (1 + t250)) t252 t251) else (leatlaw8_JobCircles.j0 k (wrap64 (1 + t250)) t251 t252)))) = some r := H
    have A6 := Aside0.mk A60
    clear A60
    replace H := Option.bind_eq_some_iff.mp H
    obtain ⟨t251, A70, H⟩ := H
    replace H : ((leathelp_Place.f a2 (wrap64 (1 + t250))).bind fun t252 => (if t252 > t251 then (leatlaw8_JobCircles.j0 k (wrap64 (1 + t250)) t252 t251) else (leatlaw8_JobCircles.j0 k (wrap64 (1 + t250)) t251 t252))) = some r := H
    have A7 := Aside0.mk A70
    clear A70
    replace H := Option.bind_eq_some_iff.mp H
    obtain ⟨t252, A80, H⟩ := H
    replace H : (if t252 > t251 then (leatlaw8_JobCircles.j0 k (wrap64 (1 + t250)) t252 t251) else (leatlaw8_JobCircles.j0 k (wrap64 (1 + t250)) t251 t252)) = some r := H
    have A8 := Aside0.mk A80
    clear A80
    have HC9 := Aside0.mk H
    clear H
    go_enter Try.func4, Try.ntmps4
    go_upto_if 23 with (first | ((with_reducible refine gate_callee (f := 6) rfl ?_); refine goesL_ (some 10) rfl rfl Try.func6 (by kernel_rfl) rfl #[] rfl (by (try simp only [List.map_toArray, List.map_cons, List.map_nil]); first | done | rfl | (simp only [List.length_drop, List.length_take]; rfl)) ?_; (with_reducible refine (leatlaw8_known.calls k  true _ A4.out).mono ?_); rintro e w10 ⟨rfl, hb⟩; refine ⟨_, rfl, ?_⟩; have n0_ := Aside0.mk (below_step (by repeat (first | (with_reducible first | exact HB.out | apply below_alloc | apply pw_below_drewN | apply below_drew1) | exact HB.out)) hb); clear HB; have HB := n0_; clear n0_; (try clear hb); (try clear hb2); (try clear hk); (try clear hi)) | ((with_reducible refine gate_callee (f := 10) rfl ?_); refine goesL_ (some 13) rfl rfl Try.func10 (by kernel_rfl) rfl #[.int .i64 a0, .int .i64 8] rfl (by (try simp only [List.map_toArray, List.map_cons, List.map_nil]); first | done | rfl | (simp only [List.length_drop, List.length_take]; rfl)) ?_; (with_reducible refine (leathelp_Place.calls a0 8 t250 _ A6.out).mono ?_); rintro e w' ⟨rfl, ⟨nd, rfl⟩⟩; refine ⟨_, rfl, ?_⟩) | ((with_reducible refine gate_callee (f := 10) rfl ?_); refine goesL_ (some 17) rfl rfl Try.func10 (by kernel_rfl) rfl #[.int .i64 a1, .int .i64 (wrap64 (1 + t250))] rfl (by (try simp only [List.map_toArray, List.map_cons, List.map_nil]); first | done | rfl | (simp only [List.length_drop, List.length_take]; rfl)) ?_; (with_reducible refine (leathelp_Place.calls a1 (wrap64 (1 + t250)) t251 _ A7.out).mono ?_); rintro e w' ⟨rfl, ⟨nd, rfl⟩⟩; refine ⟨_, rfl, ?_⟩) | ((with_reducible refine gate_callee (f := 10) rfl ?_); refine goesL_ (some 20) rfl rfl Try.func10 (by kernel_rfl) rfl #[.int .i64 a2, .int .i64 (wrap64 (1 + t250))] rfl (by (try simp only [List.map_toArray, List.map_cons, List.map_nil]); first | done | rfl | (simp only [List.length_drop, List.length_take]; rfl)) ?_; (with_reducible refine (leathelp_Place.calls a2 (wrap64 (1 + t250)) t252 _ A8.out).mono ?_); rintro e w' ⟨rfl, ⟨nd, rfl⟩⟩; refine ⟨_, rfl, ?_⟩))
    (try simp only [Act.put, List.setIfInBounds_toArray, List.set_cons_zero, List.set_cons_succ])
    go_cut [1, 2] (fun v1 v2 wc => ∃ (kq : Nat) (x1_8 : Int) (x2_8 : Int), v1 = .int .i64 x1_8 ∧ v2 = .int .i64 x2_8 ∧ Aside0 (leatlaw8_JobCircles.j0 kq (wrap64 (1 + t250)) x1_8 x2_8 = some r) ∧ Aside0 (kq ≤ k) ∧ Aside0 (Below w.heap.size w wc))
    case first =>
      have H := HC9.out
      clear HC9
      by_cases c11 : t252 > t251
      · rw [if_pos c11] at H
        have c11b0 : decide (t251 < t252) = true := decide_eq_true c11
        clear c11
        (first | rw [c11b0] | (simp only [i64_w, i32_w]; rw [c11b0]) | skip)
        have H' := Aside0.mk H
        clear H
        go_wp2
        go_meet
        case rel => exact ⟨_, (t252), (t251), (by first | rfl | (simp; done) | (simp [*]; done)), (by first | rfl | (simp; done) | (simp [*]; done)), H', ⟨by first | omega | exact Nat.le_refl _⟩, ⟨by repeat (first | (with_reducible first | exact HB.out | apply below_alloc | apply pw_below_drewN | apply below_drew1) | exact HB.out)⟩⟩
      · rw [if_neg c11] at H
        have c11b0 : decide (t251 < t252) = false := decide_eq_false c11
        clear c11
        (first | rw [c11b0] | (simp only [i64_w, i32_w]; rw [c11b0]) | skip)
        have H' := Aside0.mk H
        clear H
        go_wp2
        go_meet
        case rel => exact ⟨_, (t251), (t252), (by first | rfl | (simp; done) | (simp [*]; done)), (by first | rfl | (simp; done) | (simp [*]; done)), H', ⟨by first | omega | exact Nat.le_refl _⟩, ⟨by repeat (first | (with_reducible first | exact HB.out | apply below_alloc | apply pw_below_drewN | apply below_drew1) | exact HB.out)⟩⟩
    case rest =>
      clear HC9
      try clear c1
      try clear p2
      try clear c4
      try clear c5
      try clear c6
      try clear p6
      try clear c10
      try clear c11
      try clear c11b0
      obtain ⟨kq, x1_8, x2_8, rfl, rfl, HA, HJ8, HB⟩ := hcut
      cases kq with
      | zero => exact absurd HA.out (by simp [leatlaw8_JobCircles.j0])
      | succ kj8 =>
        have H := HA.out
        clear HA
        simp only [leatlaw8_JobCircles.j0] at H
        obtain ⟨y253, hy253⟩ : ∃ y_ : List (S38), y_ = (([(⟨1, ([] : List Int), 1, (⟨0, 0, ([] : List (S34))⟩ : S34), 0, (⟨0, 0, 0⟩ : S36)⟩ : S38)] : List (S38))) := ⟨_, rfl⟩
        replace H : (leatlaw8_JobCircles.l0 kj8 (wrap64 (1 + t250)) x1_8 x2_8 0 y253) = some r := by first | (rw [hy253]; with_reducible exact H) | (have H2_ := (Option.bind_some _ _).symm.trans H; rw [hy253]; with_reducible exact H2_) | (have H2_ := (Option.bind_some _ _).symm.trans H; with_reducible exact H2_) | with_reducible exact H | (rw [hy253]; exact H) | exact H
        have Ny253 := Aside0.mk hy253
        clear hy253
        have H' := Aside0.mk H
        clear H
        go_wp2_with (first | ((with_reducible refine gate_dst (N := 27) rfl ?_); (try (refine gate_guard (by rfl) ?_; dsimp only)); refine Kd.R_lit k38 _ 38 ?hg (N := 27) ?hd (xs := ([(⟨1, ([] : List Int), 1, (⟨0, 0, ([] : List (S34))⟩ : S34), 0, (⟨0, 0, 0⟩ : S36)⟩ : S38)] : List (S38))) (inner := [.int .i64 1, .slice none 0 0, .int .i64 1, .int .i64 0, .int .i64 0, .slice none 0 0, .int .i64 0, .int .i64 0, .int .i64 0, .int .i64 0]) (ok := fun _ => True) (okp := fun _ => True) ?hr ?hp (fun _ hk => hk) trivial (Below.refl _ _) (Nat.le_refl _) (by simp) ?_; (case hd => rfl); (case hg => rfl); (case hr => first | (go_simp; done) | (go_simp; rfl)); (case hp => exact (Reps.c10 (show Kd.M k38 _ _ _ (⟨1, ([] : List Int), 1, (⟨0, 0, ([] : List (S34))⟩ : S34), 0, (⟨0, 0, 0⟩ : S36)⟩ : S38) [.int .i64 1, .slice none 0 0, .int .i64 1, .int .i64 0, .int .i64 0, .slice none 0 0, .int .i64 0, .int .i64 0, .int .i64 0, .int .i64 0] from (k38_mkM _ _ _ (⟨1, ([] : List Int), 1, (⟨0, 0, ([] : List (S34))⟩ : S34), 0, (⟨0, 0, 0⟩ : S36)⟩ : S38) (Kd.R_nil _ _ _ _ _) (Kd.R_nil _ _ _ _ _))) (Reps.none _ _))); intro v254 w12 ho13 hb hg_ hnew_; clear hg_ hnew_; (first | rw [← Ny253.out] at ho13 | (simp only [Int.reduceToNat] at ho13; rw [← Ny253.out] at ho13)); have n0_ := Aside0.mk (Kd.R_lower ho13 (below_size (by repeat (first | (with_reducible first | exact HB.out | apply below_alloc | apply pw_below_drewN | apply below_drew1) | exact HB.out)))); have n1_ := Aside0.mk (below_step (by repeat (first | (with_reducible first | exact HB.out | apply below_alloc | apply pw_below_drewN | apply below_drew1) | exact HB.out)) hb); clear HB; have HO255 := n0_; have HB := n1_; clear n0_ n1_; clear hb ho13; obtain ⟨Ao14, co14, eo14⟩ := Kd.R_slice HO255.out; subst eo14) | ((with_reducible refine gate_dst (N := 7) rfl ?_); (try (refine gate_guard (by rfl) ?_; dsimp only)); refine box_event ?hg (N := 7) ?hd (cs := #[.slice none 0 0]) (t := 24) ?hr ?_; (case hd => rfl); (case hg => rfl); (case hr => first | (go_simp; done) | (go_simp; rfl)); intro gb256 hg w15 hbox hb; have n0_ := Aside0.mk (Kd.R_below (by (with_reducible repeat (first | apply Kd.R_alloc | apply Kd.R_drewN | apply Kd.R_drew)); exact HO255.out) hb); have n1_ := Aside0.mk (below_step (by repeat (first | (with_reducible first | exact HB.out | apply below_alloc | apply pw_below_drewN | apply below_drew1) | exact HB.out)) hb); have n2_ := Aside0.mk (hbox); have n3_ := Aside0.mk ((by rw [hg]; exact (below_size (by repeat (first | (with_reducible first | exact HB.out | apply below_alloc | apply pw_below_drewN | apply below_drew1) | exact HB.out))) : w.heap.size ≤ gb256)); have n4_ := Aside0.mk ((by rw [hg]; exact (below_size (by repeat (first | (with_reducible first | exact HB.out | apply below_alloc | apply pw_below_drewN | apply below_drew1) | exact HB.out))) : w.heap.size ≤ gb256)); clear HO255; clear HB; have HO255 := n0_; have HB := n1_; have BK256 := n2_; have GW256 := n3_; have GE256 := n4_; clear n0_ n1_ n2_ n3_ n4_; clear hb hbox hg; have hcz16_0 : w15.cell? ⟨gb256, 0, none⟩ = some (.slice none 0 0) := (blk_cell BK256.out 0).trans rfl; have hfz16_0 := blk_frozen BK256.out 0))
        go_loopg [8] kj8 (fun kq v8 w' => ∃ (x8_2 : Int) (x257000_2 : List (S38)) (u257000 : Value), v8 = .int .i64 x8_2 ∧ Aside0 (leatlaw8_JobCircles.l0 kq (wrap64 (1 + t250)) x1_8 x2_8 x8_2 x257000_2 = some r) ∧ Aside0 (kq ≤ kj8) ∧ Aside0 (Kd.R k38 38 w' w.heap.size (fun _ => True) u257000 x257000_2) ∧ Aside0 (w'.heap[gb256]? = some (.cells #[u257000] 24 (0, 0))) ∧ Aside0 (Below w.heap.size w w'))
        case atStart => exact ⟨(0), (y253), (.slice Ao14 y253.length co14), (by first | rfl | (simp; done) | (simp [*]; done)), H', ⟨Nat.le_refl _⟩, ⟨by (with_reducible repeat (first | apply Kd.R_alloc | apply Kd.R_drewN | apply Kd.R_drew)); exact Kd.R_mono (Kd.R_far (p := ⟨gb256, 0, none⟩) (Kd.R_types HO255.out BK256.out (by decide)) (fun _ hk => hk.2) (.slice Ao14 y253.length co14)) (fun _ hk => trivial)⟩, ⟨by (with_reducible repeat (first | refine blk_drewN ?_ _ | refine blk_drew ?_ | refine blk_alloc ?_ _)); refine blk_put (cs := #[.slice none 0 0]) ?_ 0 _ rfl; (with_reducible repeat (first | refine blk_drewN ?_ _ | refine blk_drew ?_ | refine blk_alloc ?_ _)); exact BK256.out⟩, ⟨by repeat (first | (with_reducible first | exact HB.out | apply below_alloc | apply pw_below_drewN | apply below_drew1 | refine below_set ?_ GE256.out) | exact HB.out)⟩⟩
        case round =>
          clear H'
          try clear c1
          try clear p2
          try clear c4
          try clear c5
          try clear c6
          try clear p6
          try clear c10
          try clear c11
          try clear c11b0
          try clear hcz16_0
          try clear hfz16_0
          try clear p2
          try clear p6
          obtain ⟨x8_2, x257000_2, u257000, rfl, HA, HK2, HO_257000, BK256, HB⟩ := hrel
          cases gk with
          | zero => exact absurd HA.out (by simp [leatlaw8_JobCircles.l0])
          | succ k2 =>
            have H := HA.out
            clear HA
            simp only [leatlaw8_JobCircles.l0] at H
            by_cases c17 : x8_2 < (wrap64 (1 + t250))
            · rw [if_pos c17] at H
              have c17b0 : decide (x8_2 < (wrap64 (1 + t250))) = true := decide_eq_true c17
              clear c17
              obtain ⟨y257, hy257⟩ : ∃ y_ : List Int, y_ = (([x8_2] : List Int)) := ⟨_, rfl⟩
              replace H : (if x257000_2.length < 1256584717458 then (leatlaw8_JobCircles.l0 k2 (wrap64 (1 + t250)) x1_8 x2_8 (wrap64 (x8_2 + 1)) (x257000_2 ++ [(⟨5, y257, 2, (⟨0, 0, ([] : List (S34))⟩ : S34), 0, (⟨0, 0, 0⟩ : S36)⟩ : S38)])) else (none)) = some r := by first | (rw [hy257]; with_reducible exact H) | (have H2_ := (Option.bind_some _ _).symm.trans H; rw [hy257]; with_reducible exact H2_) | (have H2_ := (Option.bind_some _ _).symm.trans H; with_reducible exact H2_) | with_reducible exact H | (rw [hy257]; exact H) | exact H
              have Ny257 := Aside0.mk hy257
              clear hy257
              by_cases c18 : x257000_2.length < 1256584717458
              · rw [if_pos c18] at H
                have LMc18 := Aside0.mk c18
                clear c18
                obtain ⟨y260, hy260⟩ : ∃ y_ : List (S38), y_ = (x257000_2 ++ [(⟨5, y257, 2, (⟨0, 0, ([] : List (S34))⟩ : S34), 0, (⟨0, 0, 0⟩ : S36)⟩ : S38)]) := ⟨_, rfl⟩
                replace H : (leatlaw8_JobCircles.l0 k2 (wrap64 (1 + t250)) x1_8 x2_8 (wrap64 (x8_2 + 1)) y260) = some r := by first | (rw [hy260]; with_reducible exact H) | (have H2_ := (Option.bind_some _ _).symm.trans H; rw [hy260]; with_reducible exact H2_) | (have H2_ := (Option.bind_some _ _).symm.trans H; with_reducible exact H2_) | with_reducible exact H | (rw [hy260]; exact H) | exact H
                have Ny260 := Aside0.mk hy260
                clear hy260
                have H' := Aside0.mk H
                clear H
                have hcz19_0 : wr.cell? ⟨gb256, 0, none⟩ = some (u257000) := (blk_cell BK256.out 0).trans rfl
                have hfz19_0 := blk_frozen BK256.out 0
                go_wp2_with (first | ((with_reducible refine gate_dst (N := 37) rfl ?_); (try (refine gate_guard (by rfl) ?_; dsimp only)); refine Kd.R_lit (Kd.int .i64) _ 3 ?hg (N := 37) ?hd (xs := ([x8_2] : List Int)) (inner := [.int .i64 x8_2]) (ok := fun _ => True) (okp := fun _ => True) ?hr ?hp (fun _ hk => hk) trivial (Below.refl _ _) (Nat.le_refl _) (by simp) ?_; (case hd => rfl); (case hg => rfl); (case hr => first | (go_simp; done) | (go_simp; rfl)); (case hp => exact (Reps.one (show Kd.M (Kd.int .i64) _ _ _ x8_2 [.int .i64 x8_2] from rfl) (Reps.none _ _))); intro v258 w20 ho21 hb hg_ hnew_; clear hg_ hnew_; (first | rw [← Ny257.out] at ho21 | (simp only [Int.reduceToNat] at ho21; rw [← Ny257.out] at ho21)); have n0_ := Aside0.mk (Kd.R_elder' (by (with_reducible repeat (first | apply Kd.R_alloc | apply Kd.R_drewN | apply Kd.R_drew)); exact HO_257000.out) (Kd.R_base ho21) hb); have n1_ := Aside0.mk (Kd.R_lower ho21 (below_size (by repeat (first | (with_reducible first | exact HB.out | apply below_alloc | apply pw_below_drewN | apply below_drew1 | refine below_set ?_ GE256.out) | exact HB.out)))); have n2_ := Aside0.mk (blk_below (g := gb256) (o := .cells #[u257000] 24 (0, 0)) (by (with_reducible repeat (first | refine blk_drewN ?_ _ | refine blk_drew ?_ | refine blk_alloc ?_ _)); exact BK256.out) hb); have n3_ := Aside0.mk (below_step (by repeat (first | (with_reducible first | exact HB.out | apply below_alloc | apply pw_below_drewN | apply below_drew1 | refine below_set ?_ GE256.out) | exact HB.out)) hb); clear HO_257000; clear BK256; clear HB; have HO_257000 := n0_; have HO259 := n1_; have BK256 := n2_; have HB := n3_; clear n0_ n1_ n2_ n3_; clear hb ho21; obtain ⟨Ao22, co22, eo22⟩ := Kd.R_slice HO259.out; subst eo22) | ((with_reducible refine gate_builtin (b := .append) (xs := #[.tmp 35, .tmp 39]) rfl ?_); (try (refine gate_guard (by rfl) ?_; dsimp only)); at_builtin; refine Kd.R_append k38 (w0 := w) w.heap.size rfl (.tmp 35) (.tmp 39) 22 38 (.agg #[(.int .i64 0), (.slice none 0 0), (.int .i64 0), (.int .i64 0), (.int .i64 0), (.slice none 0 0), (.int .i64 0), (.int .i64 0), (.int .i64 0), (.int .i64 0)]) 112 rfl Try.underlying22 info38 rfl (by decide) (by omega) u257000 x257000_2 (⟨5, y257, 2, (⟨0, 0, ([] : List (S34))⟩ : S34), 0, (⟨0, 0, 0⟩ : S36)⟩ : S38) [.int .i64 5, .slice Ao22 y257.length co22, .int .i64 2, .int .i64 0, .int .i64 0, .slice none 0 0, .int .i64 0, .int .i64 0, .int .i64 0, .int .i64 0] (fun _ => True) (fun k_ => ((fun _ => True)) k_ ∧ some k_ ≠ (u257000 : Value).ownBlock) rfl rfl ?aP (fun _ hk => hk) ?aF ?aO ?aB ?aS ?aL ?_; (case aP => exact k38_mkM _ _ _ (⟨5, y257, 2, (⟨0, 0, ([] : List (S34))⟩ : S34), 0, (⟨0, 0, 0⟩ : S36)⟩ : S38) (Kd.R_mono (Kd.R_apart' (HO259.out) (Kd.R_typed HO_257000.out) (by decide)) (fun k_ hk => ⟨trivial, hk.2⟩)) (Kd.R_nil _ _ _ _ _)); (case aB => exact (by repeat (first | (with_reducible first | exact HB.out | apply below_alloc | apply pw_below_drewN | apply below_drew1 | refine below_set ?_ GE256.out) | exact HB.out))); (case aF => exact (fun _ _ => trivial)); (case aO => exact (by (with_reducible repeat (first | apply Kd.R_alloc | apply Kd.R_drewN | apply Kd.R_drew)); exact Kd.R_mono HO_257000.out (fun _ hk => trivial))); (case aS => exact (below_size (by repeat (first | (with_reducible first | exact HB.out | apply below_alloc | apply pw_below_drewN | apply below_drew1 | refine below_set ?_ GE256.out) | exact HB.out)))); (case aL => have := LMc18.out; omega); intro v261 w23 ho hb hg hat; rw [← Ny260.out] at ho; have n0_ := Aside0.mk (blk_grown (g := gb256) (o := .cells #[u257000] 24 (0, 0)) (by (with_reducible repeat (first | refine blk_drewN ?_ _ | refine blk_drew ?_ | refine blk_alloc ?_ _)); exact BK256.out) hg (Kd.R_ne HO_257000.out BK256.out (by decide))); have n1_ := Aside0.mk (hb); have n2_ := Aside0.mk (ho); clear BK256; clear HB; clear HO_257000; clear HO259; have BK256 := n0_; have HB := n1_; have HO262 := n2_; clear n0_ n1_ n2_; clear ho hb hg hat; obtain ⟨Ao24, co24, eo24⟩ := Kd.R_slice HO262.out; subst eo24; have hcz25_0 : w23.cell? ⟨gb256, 0, none⟩ = some (u257000) := (blk_cell BK256.out 0).trans rfl; have hfz25_0 := blk_frozen BK256.out 0))
                go_roundg k2
                case measure => have := HJ8.out; have := HK2.out; omega
                case rel => exact ⟨(wrap64 (x8_2 + 1)), (y260), (.slice Ao24 y260.length co24), (by first | rfl | (simp; done) | (simp [*]; done)), H', ⟨by have := HJ8.out; have := HK2.out; omega⟩, ⟨by (with_reducible repeat (first | apply Kd.R_alloc | apply Kd.R_drewN | apply Kd.R_drew)); exact Kd.R_mono (Kd.R_far (p := ⟨gb256, 0, none⟩) (Kd.R_types HO262.out BK256.out (by decide)) (fun _ hk => hk.2) (.slice Ao24 y260.length co24)) (fun _ hk => trivial)⟩, ⟨by (with_reducible repeat (first | refine blk_drewN ?_ _ | refine blk_drew ?_ | refine blk_alloc ?_ _)); refine blk_put (cs := #[u257000]) ?_ 0 _ rfl; (with_reducible repeat (first | refine blk_drewN ?_ _ | refine blk_drew ?_ | refine blk_alloc ?_ _)); exact BK256.out⟩, ⟨by repeat (first | (with_reducible first | exact HB.out | apply below_alloc | apply pw_below_drewN | apply below_drew1 | refine below_set ?_ GE256.out) | exact HB.out)⟩⟩
              · rw [if_neg c18] at H
                exact absurd H (by simp)
            · rw [if_neg c17] at H
              have c17b0 : decide (x8_2 < (wrap64 (1 + t250))) = false := decide_eq_false c17
              clear c17
              obtain ⟨y263, hy263⟩ : ∃ y_ : List Int, y_ = (([(wrap64 (1 + t250))] : List Int)) := ⟨_, rfl⟩
              replace H : (if x257000_2.length < 1256584717458 then ((some (x257000_2 ++ [(⟨8, y263, 1, (⟨0, 0, ([] : List (S34))⟩ : S34), 0, (⟨0, 0, 0⟩ : S36)⟩ : S38)] : List (S38))).bind fun y266 => ((job_Check.f k2 y266).bind fun t269 => (if t269 = 0 then ((job_Order.f y266).bind fun t270 => (leatlaw8_JobCircles.j2 k2 x1_8 x2_8 ((t270.length : Int) != (wrap64 ((wrap64 (1 + t250)) + 2))) y266)) else (leatlaw8_JobCircles.j2 k2 x1_8 x2_8 true y266)))) else (none)) = some r := by first | (rw [hy263]; with_reducible exact H) | (have H2_ := (Option.bind_some _ _).symm.trans H; rw [hy263]; with_reducible exact H2_) | (have H2_ := (Option.bind_some _ _).symm.trans H; with_reducible exact H2_) | with_reducible exact H | (rw [hy263]; exact H) | exact H
              have Ny263 := Aside0.mk hy263
              clear hy263
              by_cases c26 : x257000_2.length < 1256584717458
              · rw [if_pos c26] at H
                have LMc26 := Aside0.mk c26
                clear c26
                obtain ⟨y266, hy266⟩ : ∃ y_ : List (S38), y_ = (x257000_2 ++ [(⟨8, y263, 1, (⟨0, 0, ([] : List (S34))⟩ : S34), 0, (⟨0, 0, 0⟩ : S36)⟩ : S38)]) := ⟨_, rfl⟩
                replace H : ((job_Check.f k2 y266).bind fun t269 => (if t269 = 0 then ((job_Order.f y266).bind fun t270 => (leatlaw8_JobCircles.j2 k2 x1_8 x2_8 ((t270.length : Int) != (wrap64 ((wrap64 (1 + t250)) + 2))) y266)) else (leatlaw8_JobCircles.j2 k2 x1_8 x2_8 true y266))) = some r := by first | (rw [hy266]; with_reducible exact H) | (have H2_ := (Option.bind_some _ _).symm.trans H; rw [hy266]; with_reducible exact H2_) | (have H2_ := (Option.bind_some _ _).symm.trans H; with_reducible exact H2_) | with_reducible exact H | (rw [hy266]; exact H) | exact H
                have Ny266 := Aside0.mk hy266
                clear hy266
                have HC27 := Aside0.mk H
                clear H
                have hcz28_0 : wr.cell? ⟨gb256, 0, none⟩ = some (u257000) := (blk_cell BK256.out 0).trans rfl
                have hfz28_0 := blk_frozen BK256.out 0
                go_upto_region 13 with (first | ((with_reducible refine gate_dst (N := 45) rfl ?_); (try (refine gate_guard (by rfl) ?_; dsimp only)); refine Kd.R_lit (Kd.int .i64) _ 3 ?hg (N := 45) ?hd (xs := ([(wrap64 (1 + t250))] : List Int)) (inner := [.int .i64 (wrap64 (1 + t250))]) (ok := fun _ => True) (okp := fun _ => True) ?hr ?hp (fun _ hk => hk) trivial (Below.refl _ _) (Nat.le_refl _) (by simp) ?_; (case hd => rfl); (case hg => rfl); (case hr => first | (go_simp; done) | (go_simp; rfl)); (case hp => exact (Reps.one (show Kd.M (Kd.int .i64) _ _ _ (wrap64 (1 + t250)) [.int .i64 (wrap64 (1 + t250))] from rfl) (Reps.none _ _))); intro v264 w29 ho30 hb hg_ hnew_; clear hg_ hnew_; (first | rw [← Ny263.out] at ho30 | (simp only [Int.reduceToNat] at ho30; rw [← Ny263.out] at ho30)); have n0_ := Aside0.mk (Kd.R_elder' (by (with_reducible repeat (first | apply Kd.R_alloc | apply Kd.R_drewN | apply Kd.R_drew)); exact HO_257000.out) (Kd.R_base ho30) hb); have n1_ := Aside0.mk (Kd.R_lower ho30 (below_size (by repeat (first | (with_reducible first | exact HB.out | apply below_alloc | apply pw_below_drewN | apply below_drew1 | refine below_set ?_ GE256.out) | exact HB.out)))); have n2_ := Aside0.mk (blk_below (g := gb256) (o := .cells #[u257000] 24 (0, 0)) (by (with_reducible repeat (first | refine blk_drewN ?_ _ | refine blk_drew ?_ | refine blk_alloc ?_ _)); exact BK256.out) hb); have n3_ := Aside0.mk (below_step (by repeat (first | (with_reducible first | exact HB.out | apply below_alloc | apply pw_below_drewN | apply below_drew1 | refine below_set ?_ GE256.out) | exact HB.out)) hb); clear HO_257000; clear BK256; clear HB; have HO_257000 := n0_; have HO265 := n1_; have BK256 := n2_; have HB := n3_; clear n0_ n1_ n2_ n3_; clear hb ho30; obtain ⟨Ao31, co31, eo31⟩ := Kd.R_slice HO265.out; subst eo31) | ((with_reducible refine gate_builtin (b := .append) (xs := #[.tmp 43, .tmp 47]) rfl ?_); (try (refine gate_guard (by rfl) ?_; dsimp only)); at_builtin; refine Kd.R_append k38 (w0 := w) w.heap.size rfl (.tmp 43) (.tmp 47) 22 38 (.agg #[(.int .i64 0), (.slice none 0 0), (.int .i64 0), (.int .i64 0), (.int .i64 0), (.slice none 0 0), (.int .i64 0), (.int .i64 0), (.int .i64 0), (.int .i64 0)]) 112 rfl Try.underlying22 info38 rfl (by decide) (by omega) u257000 x257000_2 (⟨8, y263, 1, (⟨0, 0, ([] : List (S34))⟩ : S34), 0, (⟨0, 0, 0⟩ : S36)⟩ : S38) [.int .i64 8, .slice Ao31 y263.length co31, .int .i64 1, .int .i64 0, .int .i64 0, .slice none 0 0, .int .i64 0, .int .i64 0, .int .i64 0, .int .i64 0] (fun _ => True) (fun k_ => ((fun _ => True)) k_ ∧ some k_ ≠ (u257000 : Value).ownBlock) rfl rfl ?aP (fun _ hk => hk) ?aF ?aO ?aB ?aS ?aL ?_; (case aP => exact k38_mkM _ _ _ (⟨8, y263, 1, (⟨0, 0, ([] : List (S34))⟩ : S34), 0, (⟨0, 0, 0⟩ : S36)⟩ : S38) (Kd.R_mono (Kd.R_apart' (HO265.out) (Kd.R_typed HO_257000.out) (by decide)) (fun k_ hk => ⟨trivial, hk.2⟩)) (Kd.R_nil _ _ _ _ _)); (case aB => exact (by repeat (first | (with_reducible first | exact HB.out | apply below_alloc | apply pw_below_drewN | apply below_drew1 | refine below_set ?_ GE256.out) | exact HB.out))); (case aF => exact (fun _ _ => trivial)); (case aO => exact (by (with_reducible repeat (first | apply Kd.R_alloc | apply Kd.R_drewN | apply Kd.R_drew)); exact Kd.R_mono HO_257000.out (fun _ hk => trivial))); (case aS => exact (below_size (by repeat (first | (with_reducible first | exact HB.out | apply below_alloc | apply pw_below_drewN | apply below_drew1 | refine below_set ?_ GE256.out) | exact HB.out)))); (case aL => have := LMc26.out; omega); intro v267 w32 ho hb hg hat; rw [← Ny266.out] at ho; have n0_ := Aside0.mk (blk_grown (g := gb256) (o := .cells #[u257000] 24 (0, 0)) (by (with_reducible repeat (first | refine blk_drewN ?_ _ | refine blk_drew ?_ | refine blk_alloc ?_ _)); exact BK256.out) hg (Kd.R_ne HO_257000.out BK256.out (by decide))); have n1_ := Aside0.mk (hb); have n2_ := Aside0.mk (ho); clear BK256; clear HB; clear HO_257000; clear HO265; have BK256 := n0_; have HB := n1_; have HO268 := n2_; clear n0_ n1_ n2_; clear ho hb hg hat; obtain ⟨Ao33, co33, eo33⟩ := Kd.R_slice HO268.out; subst eo33; have hcz34_0 : w32.cell? ⟨gb256, 0, none⟩ = some (u257000) := (blk_cell BK256.out 0).trans rfl; have hfz34_0 := blk_frozen BK256.out 0))
                (try simp only [Act.put, List.setIfInBounds_toArray, List.set_cons_zero, List.set_cons_succ])
                go_cut [60] (fun v60 wc => ∃ (kq : Nat) (x60_26 : Bool), v60 = .bool x60_26 ∧ Aside0 (leatlaw8_JobCircles.j2 kq x1_8 x2_8 x60_26 y266 = some r) ∧ Aside0 (kq ≤ k2) ∧ Aside0 (Kd.R k38 38 wc w.heap.size (fun _ => True) (.slice Ao33 y266.length co33) y266) ∧ Aside0 (wc.heap[gb256]? = some (.cells #[(.slice Ao33 y266.length co33)] 24 (0, 0))) ∧ Aside0 (Below w.heap.size w wc))
                case first =>
                  have H := HC27.out
                  clear HC27
                  replace H := Option.bind_eq_some_iff.mp H
                  obtain ⟨t269, A350, H⟩ := H
                  replace H : (if t269 = 0 then ((job_Order.f y266).bind fun t270 => (leatlaw8_JobCircles.j2 k2 x1_8 x2_8 ((t270.length : Int) != (wrap64 ((wrap64 (1 + t250)) + 2))) y266)) else (leatlaw8_JobCircles.j2 k2 x1_8 x2_8 true y266)) = some r := H
                  have A35 := Aside0.mk A350
                  clear A350
                  by_cases c36 : t269 = 0
                  · rw [if_pos c36] at H
                    have c36b0 : (t269 == 0) = true := beq_iff_eq.mpr c36
                    have c36b1 : (t269 != 0) = false := bne_eq_false_iff_eq.mpr c36
                    clear c36
                    (first | rw [c36b0] | (simp only [i64_w, i32_w]; rw [c36b0]) | skip)
                    replace H := Option.bind_eq_some_iff.mp H
                    obtain ⟨t270, A370, H⟩ := H
                    replace H : (leatlaw8_JobCircles.j2 k2 x1_8 x2_8 ((t270.length : Int) != (wrap64 ((wrap64 (1 + t250)) + 2))) y266) = some r := H
                    have A37 := Aside0.mk A370
                    clear A370
                    have H' := Aside0.mk H
                    clear H
                    have hcz38_0 : w32.cell? ⟨gb256, 0, none⟩ = some (u257000) := (blk_cell BK256.out 0).trans rfl
                    have hfz38_0 := blk_frozen BK256.out 0
                    go_wp2_with (first | ((with_reducible refine gate_callee (f := 8) rfl ?_); refine goesL_ (some 51) rfl rfl Try.func8 (by kernel_rfl) rfl #[.agg #[.slice Ao33 y266.length co33]] rfl (by (try simp only [List.map_toArray, List.map_cons, List.map_nil]); first | done | rfl | (simp only [List.length_drop, List.length_take]; rfl)) ?_; (with_reducible refine (job_Check.calls k2 _ _ y266 t269 _ ?side1 ?side2 A35.out).mono ?_); (case side1 => refine (Kd.R_reads' (e := 38) (base := w.heap.size) (ok := fun k_ => True) (n := y266.length) (c := co33) ?_).2.2; exact (by (with_reducible repeat (first | apply Kd.R_alloc | apply Kd.R_drewN | apply Kd.R_drew)); exact (Kd.R_mono (Kd.R_far (p := ⟨gb256, 0, none⟩) (Kd.R_types HO268.out BK256.out (by decide)) (fun _ hk => hk.2) (.slice Ao33 y266.length co33)) (fun _ h_ => h_.1)))); (case side2 => exact (Kd.R_reads' HO268.out).2.1); rintro e w39 ⟨rfl, hb⟩; refine ⟨_, rfl, ?_⟩; have n0_ := Aside0.mk (Kd.R_below (by (with_reducible repeat (first | apply Kd.R_alloc | apply Kd.R_drewN | apply Kd.R_drew)); exact (Kd.R_mono (Kd.R_far (p := ⟨gb256, 0, none⟩) (Kd.R_types HO268.out BK256.out (by decide)) (fun _ hk => hk.2) (.slice Ao33 y266.length co33)) (fun _ h_ => h_.1))) hb); have n1_ := Aside0.mk (blk_below (g := gb256) (o := .cells #[.slice Ao33 y266.length co33] 24 (0, 0)) (by (with_reducible repeat (first | refine blk_drewN ?_ _ | refine blk_drew ?_ | refine blk_alloc ?_ _)); refine blk_put (cs := #[u257000]) ?_ 0 _ rfl; (with_reducible repeat (first | refine blk_drewN ?_ _ | refine blk_drew ?_ | refine blk_alloc ?_ _)); exact BK256.out) hb); have n2_ := Aside0.mk (below_step (by repeat (first | (with_reducible first | exact HB.out | apply below_alloc | apply pw_below_drewN | apply below_drew1 | refine below_set ?_ GE256.out) | exact HB.out)) hb); clear HO268; clear BK256; clear HB; have HO268 := n0_; have BK256 := n1_; have HB := n2_; clear n0_ n1_ n2_; (try clear hb); (try clear hb2); (try clear hk); (try clear hi); have hcz40_0 : w39.cell? ⟨gb256, 0, none⟩ = some (.slice Ao33 y266.length co33) := (blk_cell BK256.out 0).trans rfl; have hfz40_0 := blk_frozen BK256.out 0) | (go_at_call 9; (with_reducible refine (job_Order.calls _ _ y266 t270 _ ?side1 ?side2 A37.out).mono ?_); (case side1 => repeat (first | exact (Kd.R_reads' HO268.out).2.2 | (with_reducible refine Kd.C_alloc ?_ _) | (with_reducible refine Kd.C_drewN ?_ _) | (with_reducible refine Kd.C_drew ?_))); (case side2 => exact (Kd.R_reads' HO268.out).2.1); rintro e w41 ⟨v271, rfl, ho0, hb⟩; have n0_ := Aside0.mk (Kd.R_elder' (by (with_reducible repeat (first | apply Kd.R_alloc | apply Kd.R_drewN | apply Kd.R_drew)); exact HO268.out) (Kd.R_base ho0) hb); have n1_ := Aside0.mk (Kd.R_lower ho0 (below_size (by repeat (first | (with_reducible first | exact HB.out | apply below_alloc | apply pw_below_drewN | apply below_drew1 | refine below_set ?_ GE256.out) | exact HB.out)))); have n2_ := Aside0.mk (blk_below (g := gb256) (o := .cells #[.slice Ao33 y266.length co33] 24 (0, 0)) (by (with_reducible repeat (first | refine blk_drewN ?_ _ | refine blk_drew ?_ | refine blk_alloc ?_ _)); exact BK256.out) hb); have n3_ := Aside0.mk (below_step (by repeat (first | (with_reducible first | exact HB.out | apply below_alloc | apply pw_below_drewN | apply below_drew1 | refine below_set ?_ GE256.out) | exact HB.out)) hb); clear HO268; clear BK256; clear HB; have HO268 := n0_; have HO272 := n1_; have BK256 := n2_; have HB := n3_; clear n0_ n1_ n2_ n3_; (try clear hb); (try clear hb2); (try clear hk); (try clear hi); (try clear ho0); obtain ⟨Ao42, co42, eo42⟩ := Kd.R_slice HO272.out; subst eo42))
                    go_meet
                    case rel => exact ⟨_, (((t270.length : Int) != (wrap64 ((wrap64 (1 + t250)) + 2)))), (by first | rfl | (simp; done) | (simp [*]; done)), H', ⟨by have := HJ8.out; have := HK2.out; first | omega | exact Nat.le_refl _⟩, ⟨by (with_reducible repeat (first | apply Kd.R_alloc | apply Kd.R_drewN | apply Kd.R_drew)); exact Kd.R_mono HO268.out (fun _ hk => trivial)⟩, ⟨by (with_reducible repeat (first | refine blk_drewN ?_ _ | refine blk_drew ?_ | refine blk_alloc ?_ _)); exact BK256.out⟩, ⟨by repeat (first | (with_reducible first | exact HB.out | apply below_alloc | apply pw_below_drewN | apply below_drew1 | refine below_set ?_ GE256.out) | exact HB.out)⟩⟩
                  · rw [if_neg c36] at H
                    have c36b0 : (t269 == 0) = false := beq_eq_false_iff_ne.mpr c36
                    have c36b1 : (t269 != 0) = true := bne_iff_ne.mpr c36
                    (first | rw [c36b0] | (simp only [i64_w, i32_w]; rw [c36b0]) | skip)
                    have H' := Aside0.mk H
                    clear H
                    have hcz43_0 : w32.cell? ⟨gb256, 0, none⟩ = some (u257000) := (blk_cell BK256.out 0).trans rfl
                    have hfz43_0 := blk_frozen BK256.out 0
                    go_wp2_with (first | ((with_reducible refine gate_callee (f := 8) rfl ?_); refine goesL_ (some 51) rfl rfl Try.func8 (by kernel_rfl) rfl #[.agg #[.slice Ao33 y266.length co33]] rfl (by (try simp only [List.map_toArray, List.map_cons, List.map_nil]); first | done | rfl | (simp only [List.length_drop, List.length_take]; rfl)) ?_; (with_reducible refine (job_Check.calls k2 _ _ y266 t269 _ ?side1 ?side2 A35.out).mono ?_); (case side1 => refine (Kd.R_reads' (e := 38) (base := w.heap.size) (ok := fun k_ => True) (n := y266.length) (c := co33) ?_).2.2; exact (by (with_reducible repeat (first | apply Kd.R_alloc | apply Kd.R_drewN | apply Kd.R_drew)); exact (Kd.R_mono (Kd.R_far (p := ⟨gb256, 0, none⟩) (Kd.R_types HO268.out BK256.out (by decide)) (fun _ hk => hk.2) (.slice Ao33 y266.length co33)) (fun _ h_ => h_.1)))); (case side2 => exact (Kd.R_reads' HO268.out).2.1); rintro e w44 ⟨rfl, hb⟩; refine ⟨_, rfl, ?_⟩; have n0_ := Aside0.mk (Kd.R_below (by (with_reducible repeat (first | apply Kd.R_alloc | apply Kd.R_drewN | apply Kd.R_drew)); exact (Kd.R_mono (Kd.R_far (p := ⟨gb256, 0, none⟩) (Kd.R_types HO268.out BK256.out (by decide)) (fun _ hk => hk.2) (.slice Ao33 y266.length co33)) (fun _ h_ => h_.1))) hb); have n1_ := Aside0.mk (blk_below (g := gb256) (o := .cells #[.slice Ao33 y266.length co33] 24 (0, 0)) (by (with_reducible repeat (first | refine blk_drewN ?_ _ | refine blk_drew ?_ | refine blk_alloc ?_ _)); refine blk_put (cs := #[u257000]) ?_ 0 _ rfl; (with_reducible repeat (first | refine blk_drewN ?_ _ | refine blk_drew ?_ | refine blk_alloc ?_ _)); exact BK256.out) hb); have n2_ := Aside0.mk (below_step (by repeat (first | (with_reducible first | exact HB.out | apply below_alloc | apply pw_below_drewN | apply below_drew1 | refine below_set ?_ GE256.out) | exact HB.out)) hb); clear HO268; clear BK256; clear HB; have HO268 := n0_; have BK256 := n1_; have HB := n2_; clear n0_ n1_ n2_; (try clear hb); (try clear hb2); (try clear hk); (try clear hi)))
                    go_meet
                    case rel => exact ⟨_, (true), (by first | rfl | (simp; done) | (simp [*]; done)), H', ⟨by have := HJ8.out; have := HK2.out; first | omega | exact Nat.le_refl _⟩, ⟨by (with_reducible repeat (first | apply Kd.R_alloc | apply Kd.R_drewN | apply Kd.R_drew)); exact HO268.out⟩, ⟨by (with_reducible repeat (first | refine blk_drewN ?_ _ | refine blk_drew ?_ | refine blk_alloc ?_ _)); exact BK256.out⟩, ⟨by repeat (first | (with_reducible first | exact HB.out | apply below_alloc | apply pw_below_drewN | apply below_drew1 | refine below_set ?_ GE256.out) | exact HB.out)⟩⟩
                case rest =>
                  clear HC27
                  try clear c1
                  try clear c2
                  try clear p2
                  try clear c3
                  try clear c4
                  try clear c5
                  try clear c6
                  try clear p6
                  try clear c8
                  try clear c10
                  try clear c11
                  try clear c11b0
                  try clear c17
                  try clear c17b0
                  try clear c18
                  try clear c26
                  try clear c36
                  try clear c36b0
                  try clear c36b1
                  try clear hcz16_0
                  try clear hcz19_0
                  try clear hcz25_0
                  try clear hcz28_0
                  try clear hcz34_0
                  try clear hcz38_0
                  try clear hcz40_0
                  try clear hcz43_0
                  try clear hfz16_0
                  try clear hfz19_0
                  try clear hfz25_0
                  try clear hfz28_0
                  try clear hfz34_0
                  try clear hfz38_0
                  try clear hfz40_0
                  try clear hfz43_0
                  try clear p2
                  try clear p6
                  obtain ⟨kq, x60_26, rfl, HA, HJ26, HO_257000, BK256, HB⟩ := hcut
                  cases kq with
                  | zero => exact absurd HA.out (by simp [leatlaw8_JobCircles.j2])
                  | succ kj26 =>
                    have H := HA.out
                    clear HA
                    simp only [leatlaw8_JobCircles.j2] at H
                    by_cases c45 : x60_26 = true
                    · subst c45
                      have H1 : (none) = some r := by rw [if_pos rfl] at H; exact H
                      clear H
                      have H := H1
                      clear H1
                      exact absurd H (by simp)
                    · replace c45 := Bool.eq_false_iff.mpr c45
                      subst c45
                      have H1 : (if 0 ≤ (wrap64 (1 + x2_8)) then (if (wrap64 (1 + x2_8)) < (y266.length : Int) then ((some (y266.set ((wrap64 (1 + x2_8)) : Int).toNat (⟨(rd_T38 y266 (wrap64 (1 + x2_8))).f0, (([x2_8, wrap64 (1 + x1_8)] : List Int)), (rd_T38 y266 (wrap64 (1 + x2_8))).f2, (⟨(rd_T38 y266 (wrap64 (1 + x2_8))).f3.f0, (rd_T38 y266 (wrap64 (1 + x2_8))).f3.f1, (rd_T38 y266 (wrap64 (1 + x2_8))).f3.f2⟩ : S34), (rd_T38 y266 (wrap64 (1 + x2_8))).f4, (⟨(rd_T38 y266 (wrap64 (1 + x2_8))).f5.f0, (rd_T38 y266 (wrap64 (1 + x2_8))).f5.f1, (rd_T38 y266 (wrap64 (1 + x2_8))).f5.f2⟩ : S36)⟩ : S38) : List (S38))).bind fun y276 => ((job_Order.f y276).bind fun t277 => ((job_Check.f kj26 y276).bind fun t280 => (if t280 = 83 then (if (t277.length : Int) = (wrap64 (1 + x2_8)) then ((job_Weights.f kj26 y276).bind fun t281 => (some ((t281.length : Int) == 0))) else (none)) else (none))))) else (none)) else (none)) = some r := by rw [if_neg (show ¬ (false = true) by decide)] at H; exact H
                      clear H
                      have H := H1
                      clear H1
                      obtain ⟨y273, hy273⟩ : ∃ y_ : List Int, y_ = (([x2_8, wrap64 (1 + x1_8)] : List Int)) := ⟨_, rfl⟩
                      replace H : (if 0 ≤ (wrap64 (1 + x2_8)) then (if (wrap64 (1 + x2_8)) < (y266.length : Int) then ((some (y266.set ((wrap64 (1 + x2_8)) : Int).toNat (⟨(rd_T38 y266 (wrap64 (1 + x2_8))).f0, y273, (rd_T38 y266 (wrap64 (1 + x2_8))).f2, (⟨(rd_T38 y266 (wrap64 (1 + x2_8))).f3.f0, (rd_T38 y266 (wrap64 (1 + x2_8))).f3.f1, (rd_T38 y266 (wrap64 (1 + x2_8))).f3.f2⟩ : S34), (rd_T38 y266 (wrap64 (1 + x2_8))).f4, (⟨(rd_T38 y266 (wrap64 (1 + x2_8))).f5.f0, (rd_T38 y266 (wrap64 (1 + x2_8))).f5.f1, (rd_T38 y266 (wrap64 (1 + x2_8))).f5.f2⟩ : S36)⟩ : S38) : List (S38))).bind fun y276 => ((job_Order.f y276).bind fun t277 => ((job_Check.f kj26 y276).bind fun t280 => (if t280 = 83 then (if (t277.length : Int) = (wrap64 (1 + x2_8)) then ((job_Weights.f kj26 y276).bind fun t281 => (some ((t281.length : Int) == 0))) else (none)) else (none))))) else (none)) else (none)) = some r := by first | (rw [hy273]; with_reducible exact H) | (have H2_ := (Option.bind_some _ _).symm.trans H; rw [hy273]; with_reducible exact H2_) | (have H2_ := (Option.bind_some _ _).symm.trans H; with_reducible exact H2_) | with_reducible exact H | (rw [hy273]; exact H) | exact H
                      have Ny273 := Aside0.mk hy273
                      clear hy273
                      obtain ⟨ji46, hji46⟩ : ∃ j_ : Int, (wrap64 (1 + x2_8)) = j_ := ⟨_, rfl⟩
                      replace H : (if 0 ≤ (ji46) then (if (ji46) < (y266.length : Int) then ((some (y266.set ((ji46) : Int).toNat (⟨(rd_T38 y266 (ji46)).f0, y273, (rd_T38 y266 (ji46)).f2, (⟨(rd_T38 y266 (ji46)).f3.f0, (rd_T38 y266 (ji46)).f3.f1, (rd_T38 y266 (ji46)).f3.f2⟩ : S34), (rd_T38 y266 (ji46)).f4, (⟨(rd_T38 y266 (ji46)).f5.f0, (rd_T38 y266 (ji46)).f5.f1, (rd_T38 y266 (ji46)).f5.f2⟩ : S36)⟩ : S38) : List (S38))).bind fun y276 => ((job_Order.f y276).bind fun t277 => ((job_Check.f kj26 y276).bind fun t280 => (if t280 = 83 then (if (t277.length : Int) = (ji46) then ((job_Weights.f kj26 y276).bind fun t281 => (some ((t281.length : Int) == 0))) else (none)) else (none))))) else (none)) else (none)) = some r := by first | (rw [hji46] at H; exact H) | (simp only [hji46] at H ⊢; exact H)
                      have hji46w : (IntKind.i64.wrap (1 + x2_8)) = ji46 := (i64_w _).trans hji46
                      by_cases c47 : 0 ≤ (ji46)
                      · rw [if_pos c47] at H
                        have c47b0 : decide (0 ≤ (ji46)) = true := decide_eq_true c47
                        clear c47
                        by_cases c48 : (ji46) < (y266.length : Int)
                        · rw [if_pos c48] at H
                          have c48b0 : decide ((ji46) < (y266.length : Int)) = true := decide_eq_true c48
                          clear c48
                          obtain ⟨y276, hy276⟩ : ∃ y_ : List (S38), y_ = (y266.set ((ji46) : Int).toNat (⟨(rd_T38 y266 (ji46)).f0, y273, (rd_T38 y266 (ji46)).f2, (⟨(rd_T38 y266 (ji46)).f3.f0, (rd_T38 y266 (ji46)).f3.f1, (rd_T38 y266 (ji46)).f3.f2⟩ : S34), (rd_T38 y266 (ji46)).f4, (⟨(rd_T38 y266 (ji46)).f5.f0, (rd_T38 y266 (ji46)).f5.f1, (rd_T38 y266 (ji46)).f5.f2⟩ : S36)⟩ : S38)) := ⟨_, rfl⟩
                          replace H : ((job_Order.f y276).bind fun t277 => ((job_Check.f kj26 y276).bind fun t280 => (if t280 = 83 then (if (t277.length : Int) = (ji46) then ((job_Weights.f kj26 y276).bind fun t281 => (some ((t281.length : Int) == 0))) else (none)) else (none)))) = some r := by first | (rw [hy276]; with_reducible exact H) | (have H2_ := (Option.bind_some _ _).symm.trans H; rw [hy276]; with_reducible exact H2_) | (have H2_ := (Option.bind_some _ _).symm.trans H; with_reducible exact H2_) | with_reducible exact H | (rw [hy276]; exact H) | exact H
                          have Ny276 := Aside0.mk hy276
                          clear hy276
                          replace H := Option.bind_eq_some_iff.mp H
                          obtain ⟨t277, A500, H⟩ := H
                          replace H : ((job_Check.f kj26 y276).bind fun t280 => (if t280 = 83 then (if (t277.length : Int) = (ji46) then ((job_Weights.f kj26 y276).bind fun t281 => (some ((t281.length : Int) == 0))) else (none)) else (none))) = some r := H
                          have A50 := Aside0.mk A500
                          clear A500
                          replace H := Option.bind_eq_some_iff.mp H
                          obtain ⟨t280, A510, H⟩ := H
                          replace H : (if t280 = 83 then (if (t277.length : Int) = (ji46) then ((job_Weights.f kj26 y276).bind fun t281 => (some ((t281.length : Int) == 0))) else (none)) else (none)) = some r := H
                          have A51 := Aside0.mk A510
                          clear A510
                          by_cases c52 : t280 = 83
                          · rw [if_pos c52] at H
                            have c52b0 : (t280 == 83) = true := beq_iff_eq.mpr c52
                            have c52b1 : (t280 != 83) = false := bne_eq_false_iff_eq.mpr c52
                            clear c52
                            by_cases c53 : (t277.length : Int) = (ji46)
                            · rw [if_pos c53] at H
                              have c53b0 : ((t277.length : Int) == (ji46)) = true := beq_iff_eq.mpr c53
                              have c53b1 : ((t277.length : Int) != (ji46)) = false := bne_eq_false_iff_eq.mpr c53
                              clear c53
                              replace H := Option.bind_eq_some_iff.mp H
                              obtain ⟨t281, A540, H⟩ := H
                              replace H : (some ((t281.length : Int) == 0)) = some r := H
                              have A54 := Aside0.mk A540
                              clear A540
                              obtain rfl := Option.some.inj H
                              have hcz55_0 : wc.cell? ⟨gb256, 0, none⟩ = some (.slice Ao33 y266.length co33) := (blk_cell BK256.out 0).trans rfl
                              have hfz55_0 := blk_frozen BK256.out 0
                              go_wp2_with (first | ((with_reducible refine gate_dst (N := 68) rfl ?_); (try (refine gate_guard (by rfl) ?_; dsimp only)); refine Kd.R_lit (Kd.int .i64) _ 3 ?hg (N := 68) ?hd (xs := ([x2_8, wrap64 (1 + x1_8)] : List Int)) (inner := [.int .i64 x2_8, .int .i64 (wrap64 (1 + x1_8))]) (ok := fun _ => True) (okp := fun _ => True) ?hr ?hp (fun _ hk => hk) trivial (Below.refl _ _) (Nat.le_refl _) (by simp) ?_; (case hd => rfl); (case hg => rfl); (case hr => first | (go_simp; done) | (go_simp; rfl)); (case hp => exact (Reps.one (show Kd.M (Kd.int .i64) _ _ _ x2_8 [.int .i64 x2_8] from rfl) (Reps.one (show Kd.M (Kd.int .i64) _ _ _ (wrap64 (1 + x1_8)) [.int .i64 (wrap64 (1 + x1_8))] from rfl) (Reps.none _ _)))); intro v274 w56 ho57 hb hg_ hnew_; clear hg_ hnew_; (first | rw [← Ny273.out] at ho57 | (simp only [Int.reduceToNat] at ho57; rw [← Ny273.out] at ho57)); have n0_ := Aside0.mk (Kd.R_elder' (by (with_reducible repeat (first | apply Kd.R_alloc | apply Kd.R_drewN | apply Kd.R_drew)); exact HO_257000.out) (Kd.R_base ho57) hb); have n1_ := Aside0.mk (Kd.R_lower ho57 (below_size (by repeat (first | (with_reducible first | exact HB.out | apply below_alloc | apply pw_below_drewN | apply below_drew1 | refine below_set ?_ GE256.out) | exact HB.out)))); have n2_ := Aside0.mk (blk_below (g := gb256) (o := .cells #[.slice Ao33 y266.length co33] 24 (0, 0)) (by (with_reducible repeat (first | refine blk_drewN ?_ _ | refine blk_drew ?_ | refine blk_alloc ?_ _)); exact BK256.out) hb); have n3_ := Aside0.mk (below_step (by repeat (first | (with_reducible first | exact HB.out | apply below_alloc | apply pw_below_drewN | apply below_drew1 | refine below_set ?_ GE256.out) | exact HB.out)) hb); clear HO_257000; clear BK256; clear HB; have HO_257000 := n0_; have HO275 := n1_; have BK256 := n2_; have HB := n3_; clear n0_ n1_ n2_ n3_; clear hb ho57; have p49 : 0 ≤ ((ji46) : Int) := of_decide_eq_true (by first | (with_reducible assumption) | assumption); have q49 : ((ji46) : Int) < ((y266.length : Int) : Int) := of_decide_eq_true (by first | (with_reducible assumption) | assumption); obtain ⟨go49, co49, eo49, gb49, gl49, cl49, HG49⟩ := Kd.R_form HO_257000.out (by omega); (first | cases eo49 | (injection eo49 with ea_ en_ ec_; (first | subst ea_ | (injection ea_ with ea_; subst ea_)); subst ec_; clear en_)); have GB49 := Aside0.mk gb49; have GG49 := Aside0.mk HG49; clear gb49 gl49 HG49; obtain ⟨ce49, hcl49, hM49, hcc49, hfr49⟩ := Kd.R_elem HO_257000.out z38 ((ji46) : Int) p49 q49; obtain ⟨ve49_1, ve49_5, rfl, ge49_1, ge49_5⟩ := k38_openM hM49; have hx49_0 : w56.cell? ⟨go49, ((ji46) : Int).toNat * 10, none⟩ = some (.int .i64 ((rd_T38 y266 (ji46)).f0)) := hcc49 0 _ rfl; have hx49_1 : w56.cell? ⟨go49, ((ji46) : Int).toNat * 10 + 1, none⟩ = some (ve49_1) := hcc49 1 _ rfl; have hx49_2 : w56.cell? ⟨go49, ((ji46) : Int).toNat * 10 + 2, none⟩ = some (.int .i64 ((rd_T38 y266 (ji46)).f2)) := hcc49 2 _ rfl; have hx49_3 : w56.cell? ⟨go49, ((ji46) : Int).toNat * 10 + 3, none⟩ = some (.int .i64 ((rd_T38 y266 (ji46)).f3.f0)) := hcc49 3 _ rfl; have hx49_4 : w56.cell? ⟨go49, ((ji46) : Int).toNat * 10 + 4, none⟩ = some (.int .i64 ((rd_T38 y266 (ji46)).f3.f1)) := hcc49 4 _ rfl; have hx49_5 : w56.cell? ⟨go49, ((ji46) : Int).toNat * 10 + 5, none⟩ = some (ve49_5) := hcc49 5 _ rfl; have hx49_6 : w56.cell? ⟨go49, ((ji46) : Int).toNat * 10 + 6, none⟩ = some (.int .i64 ((rd_T38 y266 (ji46)).f4)) := hcc49 6 _ rfl; have hx49_7 : w56.cell? ⟨go49, ((ji46) : Int).toNat * 10 + 7, none⟩ = some (.int .i64 ((rd_T38 y266 (ji46)).f5.f0)) := hcc49 7 _ rfl; have hx49_8 : w56.cell? ⟨go49, ((ji46) : Int).toNat * 10 + 8, none⟩ = some (.int .i64 ((rd_T38 y266 (ji46)).f5.f1)) := hcc49 8 _ rfl; have hx49_9 : w56.cell? ⟨go49, ((ji46) : Int).toNat * 10 + 9, none⟩ = some (.int .i64 ((rd_T38 y266 (ji46)).f5.f2)) := hcc49 9 _ rfl; have hf49_0 : w56.frozen? ⟨go49, ((ji46) : Int).toNat * 10, none⟩ = false := hfr49 0; have hf49_1 : w56.frozen? ⟨go49, ((ji46) : Int).toNat * 10 + 1, none⟩ = false := hfr49 1; have hf49_2 : w56.frozen? ⟨go49, ((ji46) : Int).toNat * 10 + 2, none⟩ = false := hfr49 2; have hf49_3 : w56.frozen? ⟨go49, ((ji46) : Int).toNat * 10 + 3, none⟩ = false := hfr49 3; have hf49_4 : w56.frozen? ⟨go49, ((ji46) : Int).toNat * 10 + 4, none⟩ = false := hfr49 4; have hf49_5 : w56.frozen? ⟨go49, ((ji46) : Int).toNat * 10 + 5, none⟩ = false := hfr49 5; have hf49_6 : w56.frozen? ⟨go49, ((ji46) : Int).toNat * 10 + 6, none⟩ = false := hfr49 6; have hf49_7 : w56.frozen? ⟨go49, ((ji46) : Int).toNat * 10 + 7, none⟩ = false := hfr49 7; have hf49_8 : w56.frozen? ⟨go49, ((ji46) : Int).toNat * 10 + 8, none⟩ = false := hfr49 8; have hf49_9 : w56.frozen? ⟨go49, ((ji46) : Int).toNat * 10 + 9, none⟩ = false := hfr49 9; clear hcl49 hcc49 hfr49 hM49; replace p49 := eq_true p49; replace q49 := eq_true q49; have n_ := Aside0.mk (Kd.R_mono (ok' := (fun k_ => some k_ ≠ (v274 : Value).ownBlock)) HO_257000.out (fun k_ hk => hk.2)); clear HO_257000; have HO_257000 := n_; clear n_; have HX58 := Aside0.mk (show Kd.R k38 38 w56 w.heap.size (fun _ => True) (.slice (some ⟨go49, 0, none⟩) y266.length co33) y266 from (by (with_reducible repeat (first | apply Kd.R_alloc | apply Kd.R_drewN | apply Kd.R_drew)); exact Kd.R_mono HO_257000.out (fun _ hk => trivial))); obtain ⟨ce58, hcl58, hM58, hcc58, hfr58⟩ := Kd.R_elem HX58.out z38 ((ji46) : Int) (of_decide_eq_true (by first | (with_reducible assumption) | assumption)) (by have h_ : ((ji46) : Int) < ((y266.length : Int) : Int) := of_decide_eq_true (by first | (with_reducible assumption) | assumption); first | exact h_ | (have e_ := (Kd.R_reads' HO_257000.out).1; omega) | simpa using h_); obtain ⟨ve58_1, ve58_5, rfl, ge58_1, ge58_5⟩ := k38_openM hM58; have HP58 := Kd.R_seg HX58.out ((ji46) : Int) (of_decide_eq_true (by first | (with_reducible assumption) | assumption)) (by have h_ : ((ji46) : Int) < ((y266.length : Int) : Int) := of_decide_eq_true (by first | (with_reducible assumption) | assumption); first | exact h_ | (have e_ := (Kd.R_reads' HO_257000.out).1; omega) | simpa using h_) (seg := [v274]) (j := 1) hcl58 hcc58 (show 2 ≤ 10 from by decide) (x' := (⟨(rd_T38 y266 (ji46)).f0, y273, (rd_T38 y266 (ji46)).f2, (⟨(rd_T38 y266 (ji46)).f3.f0, (rd_T38 y266 (ji46)).f3.f1, (rd_T38 y266 (ji46)).f3.f2⟩ : S34), (rd_T38 y266 (ji46)).f4, (⟨(rd_T38 y266 (ji46)).f5.f0, (rd_T38 y266 (ji46)).f5.f1, (rd_T38 y266 (ji46)).f5.f2⟩ : S36)⟩ : S38)) (k38_mkM _ _ _ (⟨(rd_T38 y266 (ji46)).f0, y273, (rd_T38 y266 (ji46)).f2, (⟨(rd_T38 y266 (ji46)).f3.f0, (rd_T38 y266 (ji46)).f3.f1, (rd_T38 y266 (ji46)).f3.f2⟩ : S34), (rd_T38 y266 (ji46)).f4, (⟨(rd_T38 y266 (ji46)).f5.f0, (rd_T38 y266 (ji46)).f5.f1, (rd_T38 y266 (ji46)).f5.f2⟩ : S36)⟩ : S38) (Kd.R_mono (Kd.R_apart' (HO275.out) (Kd.R_typed HO_257000.out) (by decide)) (fun k_ hk => ⟨trivial, fun e_ => (hk.2) (by rw [e_]; rfl)⟩)) ge58_5) (fun _ hk => hk); have hx58_1 := hcc58 1 _ rfl; (try simp only [show (k38).sz = 10 from rfl, Nat.mul_one, Nat.add_zero] at hx58_1); have hf58_1 := hfr58 1; (try simp only [show (k38).sz = 10 from rfl, Nat.mul_one, Nat.add_zero] at hf58_1); clear hcl58 hcc58 hfr58 hM58) | ((with_reducible refine gate_store (t := 30) (p := 70) rfl ?_); refine store_event (t := 30) (p := 70) (v := ?vo_w59) (w1 := (w56.setCell ⟨go49, ((ji46) : Int).toNat * 10 + 1, none⟩ (v274))) ?hg ?ho ?hn ?hr ?_; (case ho => rfl); (case hg => rfl); (case hn => rfl); (case hr => first | (go_simp; done) | (go_simp; rfl) | (obtain ⟨_, _, eo_⟩ := Kd.R_slice HO275.out; subst eo_; first | (go_simp; done) | (go_simp; rfl))); intro w59 hw; have hg : w56.grownBy w59 (some go49) := (by rw [hw]; exact HP58.2); have hp_ : Kd.R k38 38 w59 w.heap.size (fun _ => True) (.slice (some ⟨go49, 0, none⟩) y266.length co33) y276 := (by rw [hw, Ny276.out]; exact HP58.1); clear HP58; have n0_ := Aside0.mk (hp_); have n1_ := Aside0.mk (blk_grown (g := gb256) (o := .cells #[.slice (some ⟨go49, 0, none⟩) y266.length co33] 24 (0, 0)) (by (with_reducible repeat (first | refine blk_drewN ?_ _ | refine blk_drew ?_ | refine blk_alloc ?_ _)); exact BK256.out) hg (Kd.R_ne HO_257000.out BK256.out (by decide))); have n2_ := Aside0.mk ((by rw [hw]; exact below_set (HB.out) GB49.out : Below w.heap.size w w59)); clear HO_257000; clear BK256; clear HB; clear HO275; have HO_257000 := n0_; have BK256 := n1_; have HB := n2_; clear n0_ n1_ n2_; clear hg hw hp_; have hcz60_0 : w59.cell? ⟨gb256, 0, none⟩ = some (.slice (some ⟨go49, 0, none⟩) y266.length co33) := (blk_cell BK256.out 0).trans rfl; have hfz60_0 := blk_frozen BK256.out 0) | ((with_reducible refine gate_callee (f := 9) rfl ?_); refine goesL_ (some 72) rfl rfl Try.func9 (by kernel_rfl) rfl #[.agg #[.slice (some ⟨go49, 0, none⟩) y276.length co33]] rfl (by (try simp only [List.map_toArray, List.map_cons, List.map_nil]); first | done | (rw [show y276.length = y266.length from (Kd.R_reads' HO_257000.out).1.symm] <;> rfl) | rfl | (simp only [List.length_drop, List.length_take]; rfl)) ?_; (with_reducible refine (job_Order.calls _ _ y276 t277 _ ?side1 ?side2 A50.out).mono ?_); (case side1 => repeat (first | exact (Kd.R_reads' HO_257000.out).2.2 | (with_reducible refine Kd.C_alloc ?_ _) | (with_reducible refine Kd.C_drewN ?_ _) | (with_reducible refine Kd.C_drew ?_))); (case side2 => rw [show y276.length = y266.length from (Kd.R_reads' HO_257000.out).1.symm]; exact (Kd.R_reads' HO_257000.out).2.1); rintro e w61 ⟨v278, rfl, ho0, hb⟩; refine ⟨_, rfl, ?_⟩; have n0_ := Aside0.mk (Kd.R_elder' (by (with_reducible repeat (first | apply Kd.R_alloc | apply Kd.R_drewN | apply Kd.R_drew)); exact HO_257000.out) (Kd.R_base ho0) hb); have n1_ := Aside0.mk (Kd.R_lower ho0 (below_size (by repeat (first | (with_reducible first | exact HB.out | apply below_alloc | apply pw_below_drewN | apply below_drew1 | refine below_set ?_ GE256.out) | exact HB.out)))); have n2_ := Aside0.mk (blk_below (g := gb256) (o := .cells #[.slice (some ⟨go49, 0, none⟩) y266.length co33] 24 (0, 0)) (by (with_reducible repeat (first | refine blk_drewN ?_ _ | refine blk_drew ?_ | refine blk_alloc ?_ _)); exact BK256.out) hb); have n3_ := Aside0.mk (below_step (by repeat (first | (with_reducible first | exact HB.out | apply below_alloc | apply pw_below_drewN | apply below_drew1 | refine below_set ?_ GE256.out) | exact HB.out)) hb); clear HO_257000; clear BK256; clear HB; have HO_257000 := n0_; have HO279 := n1_; have BK256 := n2_; have HB := n3_; clear n0_ n1_ n2_ n3_; (try clear hb); (try clear hb2); (try clear hk); (try clear hi); (try clear ho0); have hcz62_0 : w61.cell? ⟨gb256, 0, none⟩ = some (.slice (some ⟨go49, 0, none⟩) y266.length co33) := (blk_cell BK256.out 0).trans rfl; have hfz62_0 := blk_frozen BK256.out 0) | ((with_reducible refine gate_callee (f := 8) rfl ?_); refine goesL_ (some 74) rfl rfl Try.func8 (by kernel_rfl) rfl #[.agg #[.slice (some ⟨go49, 0, none⟩) y276.length co33]] rfl (by (try simp only [List.map_toArray, List.map_cons, List.map_nil]); first | done | (rw [show y276.length = y266.length from (Kd.R_reads' HO_257000.out).1.symm] <;> rfl) | rfl | (simp only [List.length_drop, List.length_take]; rfl)) ?_; (with_reducible refine (job_Check.calls kj26 _ _ y276 t280 _ ?side1 ?side2 A51.out).mono ?_); (case side1 => repeat (first | exact (Kd.R_reads' HO_257000.out).2.2 | (with_reducible refine Kd.C_alloc ?_ _) | (with_reducible refine Kd.C_drewN ?_ _) | (with_reducible refine Kd.C_drew ?_))); (case side2 => rw [show y276.length = y266.length from (Kd.R_reads' HO_257000.out).1.symm]; exact (Kd.R_reads' HO_257000.out).2.1); rintro e w63 ⟨rfl, hb⟩; refine ⟨_, rfl, ?_⟩; have n0_ := Aside0.mk (Kd.R_below (by (with_reducible repeat (first | apply Kd.R_alloc | apply Kd.R_drewN | apply Kd.R_drew)); exact HO_257000.out) hb); have n1_ := Aside0.mk (Kd.R_below (by (with_reducible repeat (first | apply Kd.R_alloc | apply Kd.R_drewN | apply Kd.R_drew)); exact HO279.out) hb); have n2_ := Aside0.mk (blk_below (g := gb256) (o := .cells #[.slice (some ⟨go49, 0, none⟩) y266.length co33] 24 (0, 0)) (by (with_reducible repeat (first | refine blk_drewN ?_ _ | refine blk_drew ?_ | refine blk_alloc ?_ _)); exact BK256.out) hb); have n3_ := Aside0.mk (below_step (by repeat (first | (with_reducible first | exact HB.out | apply below_alloc | apply pw_below_drewN | apply below_drew1 | refine below_set ?_ GE256.out) | exact HB.out)) hb); clear HO_257000; clear HO279; clear BK256; clear HB; have HO_257000 := n0_; have HO279 := n1_; have BK256 := n2_; have HB := n3_; clear n0_ n1_ n2_ n3_; (try clear hb); (try clear hb2); (try clear hk); (try clear hi); obtain ⟨Ao64, co64, eo64⟩ := Kd.R_slice HO279.out; subst eo64; have hcz65_0 : w63.cell? ⟨gb256, 0, none⟩ = some (.slice (some ⟨go49, 0, none⟩) y266.length co33) := (blk_cell BK256.out 0).trans rfl; have hfz65_0 := blk_frozen BK256.out 0) | (go_at_call 11; refine calls_of_args (args' := #[.agg #[.slice (some ⟨go49, 0, none⟩) y276.length co33]]) (by first | (rw [show y276.length = y266.length from (Kd.R_reads' HO_257000.out).1.symm] <;> rfl) | rfl) ?_; (with_reducible refine (job_Weights.calls kj26 _ _ y276 t281 _ ?side1 ?side2 A54.out).mono ?_); (case side1 => repeat (first | exact (Kd.R_reads' HO_257000.out).2.2 | (with_reducible refine Kd.C_alloc ?_ _) | (with_reducible refine Kd.C_drewN ?_ _) | (with_reducible refine Kd.C_drew ?_))); (case side2 => rw [show y276.length = y266.length from (Kd.R_reads' HO_257000.out).1.symm]; exact (Kd.R_reads' HO_257000.out).2.1); rintro e w66 ⟨v282, rfl, ho0, hb⟩; have n0_ := Aside0.mk (Kd.R_elder' (by (with_reducible repeat (first | apply Kd.R_alloc | apply Kd.R_drewN | apply Kd.R_drew)); exact HO_257000.out) (Kd.R_base ho0) hb); have n1_ := Aside0.mk (Kd.R_elder' (by (with_reducible repeat (first | apply Kd.R_alloc | apply Kd.R_drewN | apply Kd.R_drew)); exact HO279.out) (Kd.R_base ho0) hb); have n2_ := Aside0.mk (Kd.R_lower (Kd.R_new' ho0 (Kd.R_lt (by (with_reducible repeat (first | apply Kd.R_alloc | apply Kd.R_drewN | apply Kd.R_drew)); exact HO279.out))) (below_size (by repeat (first | (with_reducible first | exact HB.out | apply below_alloc | apply pw_below_drewN | apply below_drew1 | refine below_set ?_ GE256.out) | exact HB.out)))); have n3_ := Aside0.mk (blk_below (g := gb256) (o := .cells #[.slice (some ⟨go49, 0, none⟩) y266.length co33] 24 (0, 0)) (by (with_reducible repeat (first | refine blk_drewN ?_ _ | refine blk_drew ?_ | refine blk_alloc ?_ _)); exact BK256.out) hb); have n4_ := Aside0.mk (below_step (by repeat (first | (with_reducible first | exact HB.out | apply below_alloc | apply pw_below_drewN | apply below_drew1 | refine below_set ?_ GE256.out) | exact HB.out)) hb); clear HO_257000; clear HO279; clear BK256; clear HB; have HO_257000 := n0_; have HO279 := n1_; have HO283 := n2_; have BK256 := n3_; have HB := n4_; clear n0_ n1_ n2_ n3_ n4_; (try clear hb); (try clear hb2); (try clear hk); (try clear hi); (try clear ho0); obtain ⟨Ao67, co67, eo67⟩ := Kd.R_slice HO283.out; subst eo67))
                              go_ret
                              exact ⟨by first | rfl | (simp [errW_none, errW_some] <;> rfl) | (simp only [← hji46]; first | rfl | (simp [errW_none, errW_some] <;> rfl)) | (simp [*, errW_none, errW_some] <;> rfl), by repeat (first | (with_reducible first | exact HB.out | apply below_alloc | apply pw_below_drewN | apply below_drew1 | refine below_set ?_ GE256.out) | exact HB.out)⟩
                            · rw [if_neg c53] at H
                              exact absurd H (by simp)
                          · rw [if_neg c52] at H
                            exact absurd H (by simp)
                        · rw [if_neg c48] at H
                          exact absurd H (by simp)
                      · rw [if_neg c47] at H
                        exact absurd H (by simp)
              · rw [if_neg c26] at H
                exact absurd H (by simp)
  · replace c5 := Bool.eq_false_iff.mpr c5
    subst c5
    have H1 : (none) = some r := by rw [if_neg (show ¬ (false = true) by decide)] at H; exact H
    clear H
    have H := H1
    clear H1
    exact absurd H (by simp)

/-- THE ONE PURE STATEMENT of leatlaw8_JobCircles: yours. -/
def leatlaw8_JobCircles.Pure : Prop := ∀ (a0 : Int) (a1 : Int) (a2 : Int), (Lit.int .i64 a0).wf = true → (Lit.int .i64 a1).wf = true → (Lit.int .i64 a2).wf = true → ∃ k, leatlaw8_JobCircles.f k a0 a1 a2 = some true
theorem leatlaw8_JobCircles.walk (P : leatlaw8_JobCircles.Pure) (a0 : Int) (a1 : Int) (a2 : Int) (w : World) (w0 : (Lit.int .i64 a0).wf = true) (w1 : (Lit.int .i64 a1).wf = true) (w2 : (Lit.int .i64 a2).wf = true) :
    Calls Try.prog 4 #[.int .i64 a0, .int .i64 a1, .int .i64 a2] w fun e w' => e = .returned (.bool true) ∧ Below w.heap.size w w' := by
  obtain ⟨k, h⟩ := P a0 a1 a2 w0 w1 w2
  refine (leatlaw8_JobCircles.calls k a0 a1 a2 true w h).mono ?_
  rintro e w' ⟨rfl, hd⟩
  exact ⟨rfl, hd⟩

end Go.Proofs.Ytpbmfdbfimcpjaa.X
