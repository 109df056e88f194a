/- Proofs towards the laws of this seat, joined. No conditions beyond those typed. -/
import Derived.Test.YtdinbnbogdadgaaB10
import Derived.Test.YtdinbnbogdadgaaB17
import Derived.Test.YtdinbnbogdadgaaDXf29
import Derived.Test.YtdinbnbogdadgaaDXf25
import Derived.Test.YtdinbnbogdadgaaDXf30
import Derived.Test.YtdinbnbogdadgaaB16
import Derived.Test.YtdinbnbogdadgaaB14
namespace Go.Proofs.Ytdinbnbogdadgaa.X
open Go.RowKit Go.Proofs.YtdinbnbogdadgaaW.PrintWords Go.Proofs.YtdinbnbogdadgaaW.PrintLast Go.Proofs.YtdinbnbogdadgaaW.PrintMore
attribute [local go_sem] max2_int min2_int max_two min_two max_three min_three max_four min_four   -- for this text's walks alone
set_option linter.unusedVariables false
set_option linter.unusedSimpArgs false
mutual
def leatlaw11_WindowJoin.j0 : Nat → Int → List (S46) → Bool → Option (Bool)
 | 0, _, _, _ => none
 | k + 1, x0, x1, x20 => if x20 = true then (some true) else (leatlaw11_WindowJoin.l0 k x0 x1 ([] : List (S46)) (wrap64 ((x1.length : Int) - 1)))
def leatlaw11_WindowJoin.l0 : Nat → Int → List (S46) → List (S46) → Int → Option (Bool)
 | 0, _, _, _, _ => none
 | k + 1, x0, x1, x5, x6 => if x6 ≥ 0 then (if 0 ≤ x6 then (if x6 < (x1.length : Int) then (if x5.length < 4398046511104 then (leatlaw11_WindowJoin.l0 k x0 x1 (x5 ++ [(⟨(rd_T46 x1 x6).f0, (⟨(rd_T46 x1 x6).f1.f0, (rd_T46 x1 x6).f1.f1⟩ : S31), (rd_T46 x1 x6).f2⟩ : S46)]) (wrap64 (x6 - 1))) else (none)) else (none)) else (none)) else ((window_Join.f x0 x1).bind fun t386 => ((window_Sort.f x1).bind fun t389 => ((leatref11_Sort.f k x1).bind fun t392 => ((leathelp_Panes.f k t389 t392).bind fun t395 => (if t395 = true then ((leatref11_Join.f k x0 x1).bind fun t396 => ((leathelp_Panes.f k t386 t396).bind fun t399 => (if t399 = true then ((window_Join.f x0 x5).bind fun t400 => ((leathelp_Panes.f k t386 t400).bind fun t403 => (if t403 = true then ((window_Join.f x0 t386).bind fun t404 => ((leathelp_Panes.f k t404 t386).bind fun t407 => (if t407 = true then ((window_Sort.f x5).bind fun t408 => ((window_Sort.f x1).bind fun t411 => ((leathelp_Panes.f k t408 t411).bind fun t414 => (some t414)))) else (none)))) else (none)))) else (none)))) else (none))))))
end
def leatlaw11_WindowJoin.f (k : Nat) (a0 : Int) (l1 : List (S46)) : Option (Bool) := (leatlaw11_known.f k).bind fun t380 => (if t380 = true then ((leatlaw11_panes.f k l1).bind fun t381 => (if t381 = true then (if a0 < 1 then (leatlaw11_WindowJoin.j0 k a0 l1 true) else (leatlaw11_WindowJoin.j0 k a0 l1 (decide (a0 > 5)))) else (leatlaw11_WindowJoin.j0 k a0 l1 true))) else (none))
theorem leatlaw11_WindowJoin.mono_l : ∀ k, (∀ y0 y1 y2, LeO (leatlaw11_WindowJoin.j0 k y0 y1 y2) (leatlaw11_WindowJoin.j0 (k + 1) y0 y1 y2)) ∧ (∀ y0 y1 y2 y3, LeO (leatlaw11_WindowJoin.l0 k y0 y1 y2 y3) (leatlaw11_WindowJoin.l0 (k + 1) y0 y1 y2 y3))
 | 0 => ⟨fun _ _ _ r h => by simp [leatlaw11_WindowJoin.j0] at h, fun _ _ _ _ r h => by simp [leatlaw11_WindowJoin.l0] at h⟩
 | k + 1 => by
  obtain ⟨ih0, ih1⟩ := leatlaw11_WindowJoin.mono_l k
  refine ⟨?_, ?_⟩
  ·intro y0 y1 y2
   unfold leatlaw11_WindowJoin.j0
   repeat' first
   | (with_reducible exact ih0 _ _ _)
   | (with_reducible exact ih1 _ _ _ _)
   | (with_reducible exact leathelp_Panes.mono _ _ _)
   | (with_reducible exact leatlaw11_known.mono _)
   | (with_reducible exact leatlaw11_panes.mono _ _)
   | (with_reducible exact leatref11_Join.mono _ _ _)
   | (with_reducible exact leatref11_Sort.mono _ _)
   | (with_reducible exact LeO.refl _)
   | (with_reducible exact LeO.none _)
   | (with_reducible refine LeO.ite ?_ ?_)
   | (with_reducible refine LeO.bind ?_ (fun _ => ?_))
   | exact ih0 _ _ _
   | exact ih1 _ _ _ _
   | exact leathelp_Panes.mono _ _ _
   | exact leatlaw11_known.mono _
   | exact leatlaw11_panes.mono _ _
   | exact leatref11_Join.mono _ _ _
   | exact leatref11_Sort.mono _ _
   | exact LeO.none _
   | refine LeO.ite ?_ ?_
   | refine LeO.bind ?_ (fun _ => ?_)
  ·intro y0 y1 y2 y3
   unfold leatlaw11_WindowJoin.l0
   repeat' first
   | (with_reducible exact ih0 _ _ _)
   | (with_reducible exact ih1 _ _ _ _)
   | (with_reducible exact leathelp_Panes.mono _ _ _)
   | (with_reducible exact leatlaw11_known.mono _)
   | (with_reducible exact leatlaw11_panes.mono _ _)
   | (with_reducible exact leatref11_Join.mono _ _ _)
   | (with_reducible exact leatref11_Sort.mono _ _)
   | (with_reducible exact LeO.refl _)
   | (with_reducible exact LeO.none _)
   | (with_reducible refine LeO.ite ?_ ?_)
   | (with_reducible refine LeO.bind ?_ (fun _ => ?_))
   | exact ih0 _ _ _
   | exact ih1 _ _ _ _
   | exact leathelp_Panes.mono _ _ _
   | exact leatlaw11_known.mono _
   | exact leatlaw11_panes.mono _ _
   | exact leatref11_Join.mono _ _ _
   | exact leatref11_Sort.mono _ _
   | exact LeO.none _
   | refine LeO.ite ?_ ?_
   | refine LeO.bind ?_ (fun _ => ?_)
theorem leatlaw11_WindowJoin.mono : ∀ a0 a1 k, LeO (leatlaw11_WindowJoin.f k a0 a1) (leatlaw11_WindowJoin.f (k + 1) a0 a1) := by
 intro a0 a1 k
 obtain ⟨ih0, ih1⟩ := leatlaw11_WindowJoin.mono_l k
 unfold leatlaw11_WindowJoin.f
 repeat' first
   | (with_reducible exact ih0 _ _ _)
   | (with_reducible exact ih1 _ _ _ _)
   | (with_reducible exact leathelp_Panes.mono _ _ _)
   | (with_reducible exact leatlaw11_known.mono _)
   | (with_reducible exact leatlaw11_panes.mono _ _)
   | (with_reducible exact leatref11_Join.mono _ _ _)
   | (with_reducible exact leatref11_Sort.mono _ _)
   | (with_reducible exact LeO.refl _)
   | (with_reducible exact LeO.none _)
   | (with_reducible refine LeO.ite ?_ ?_)
   | (with_reducible refine LeO.bind ?_ (fun _ => ?_))
   | exact ih0 _ _ _
   | exact ih1 _ _ _ _
   | exact leathelp_Panes.mono _ _ _
   | exact leatlaw11_known.mono _
   | exact leatlaw11_panes.mono _ _
   | exact leatref11_Join.mono _ _ _
   | exact leatref11_Sort.mono _ _
   | exact LeO.none _
   | refine LeO.ite ?_ ?_
   | refine LeO.bind ?_ (fun _ => ?_)
set_option maxHeartbeats 8000000 in
set_option maxRecDepth 100000 in
theorem leatlaw11_WindowJoin.calls (k : Nat) (a0 : Int) (A1 : Option Addr) (c1 : Nat) (l1 : List (S46)) (r : Bool) (w : World) (hr1 : Kd.C k46 w A1 l1.length l1) (hc1 : l1.length ≤ c1) (h : leatlaw11_WindowJoin.f k a0 l1 = some r) :
  Calls Try.prog 10 #[.int .i64 a0, .slice A1 l1.length c1] w fun e w' => e = .returned (.bool r) ∧ Below w.heap.size w w' := by
 have hu46 := Try.underlying46
 have HR1 := Aside0.mk hr1
 have HC1 := Aside0.mk hc1
 clear hr1 hc1
 have HB := Aside0.mk (Below.refl w.heap.size w)
 have H : ((leatlaw11_known.f k).bind fun t380 => (if t380 = true then ((leatlaw11_panes.f k l1).bind fun t381 => (if t381 = true then (if a0 < 1 then (leatlaw11_WindowJoin.j0 k a0 l1 true) else (leatlaw11_WindowJoin.j0 k a0 l1 (decide (a0 > 5)))) else (leatlaw11_WindowJoin.j0 k a0 l1 true))) else (none))) = some r := h
 clear h
 replace H := Option.bind_eq_some_iff.mp H
 obtain ⟨t380, A30, H⟩ := H
 replace H : (if t380 = true then ((leatlaw11_panes.f k l1).bind fun t381 => (if t381 = true then (if a0 < 1 then (leatlaw11_WindowJoin.j0 k a0 l1 true) else (leatlaw11_WindowJoin.j0 k a0 l1 (decide (a0 > 5)))) else (leatlaw11_WindowJoin.j0 k a0 l1 true))) else (none)) = some r := H
 have A3 := Aside0.mk A30
 clear A30
 by_cases c4 : t380 = true
 ·subst c4
  have H1 : ((leatlaw11_panes.f k l1).bind fun t381 => (if t381 = true then (if a0 < 1 then (leatlaw11_WindowJoin.j0 k a0 l1 true) else (leatlaw11_WindowJoin.j0 k a0 l1 (decide (a0 > 5)))) else (leatlaw11_WindowJoin.j0 k a0 l1 true))) = some r := by rw [if_pos rfl] at H; exact H
  clear H
  have H := H1
  clear H1
  have HC5 := Aside0.mk H
  clear H
  go_enter Try.func10, Try.ntmps10
  go_upto_region 3 with (first | ((with_reducible refine gate_callee (f := 12) rfl ?_); refine goesL_ (some 8) rfl rfl Try.func12 (by kernel_rfl) rfl #[] rfl (by (try simp only [List.map_toArray, List.map_cons, List.map_nil]); first | done | rfl | (simp only [List.length_drop, List.length_take]; rfl)) ?_; (with_reducible refine (leatlaw11_known.calls k  true _ A3.out).mono ?_); rintro e w6 ⟨rfl, hb⟩; refine ⟨_, rfl, ?_⟩; have n0_ := Aside0.mk (below_step (by repeat (first | (with_reducible first | exact HB.out | apply below_alloc | apply pw_below_drewN | apply below_drew1) | exact HB.out)) hb); clear HB; have HB := n0_; clear n0_; (try clear hb); (try clear hb2); (try clear hk); (try clear hi)))
  (try simp only [Act.put, List.setIfInBounds_toArray, List.set_cons_zero, List.set_cons_succ])
  go_cut [20] (fun v20 wc => ∃ (kq : Nat) (x20_4 : Bool), v20 = .bool x20_4 ∧ Aside0 (leatlaw11_WindowJoin.j0 kq a0 l1 x20_4 = some r) ∧ Aside0 (kq ≤ k) ∧ Aside0 (Below w.heap.size w wc))
  case first =>
   have H := HC5.out
   clear HC5
   replace H := Option.bind_eq_some_iff.mp H
   obtain ⟨t381, A70, H⟩ := H
   replace H : (if t381 = true then (if a0 < 1 then (leatlaw11_WindowJoin.j0 k a0 l1 true) else (leatlaw11_WindowJoin.j0 k a0 l1 (decide (a0 > 5)))) else (leatlaw11_WindowJoin.j0 k a0 l1 true)) = some r := H
   have A7 := Aside0.mk A70
   clear A70
   by_cases c8 : t381 = true
   ·subst c8
    have H1 : (if a0 < 1 then (leatlaw11_WindowJoin.j0 k a0 l1 true) else (leatlaw11_WindowJoin.j0 k a0 l1 (decide (a0 > 5)))) = some r := by rw [if_pos rfl] at H; exact H
    clear H
    have H := H1
    clear H1
    by_cases c9 : a0 < 1
    ·rw [if_pos c9] at H
     have c9b0 : decide (a0 < 1) = true := decide_eq_true c9
     clear c9
     (first | rw [c9b0] | (simp only [i64_w, i32_w]; rw [c9b0]) | skip)
     have H' := Aside0.mk H
     clear H
     go_wp2_with (first | ((with_reducible refine gate_callee (f := 25) rfl ?_); refine goesL_ (some 11) rfl rfl Try.func25 (by kernel_rfl) rfl #[.slice A1 l1.length c1] rfl (by (try simp only [List.map_toArray, List.map_cons, List.map_nil]); first | done | rfl | (simp only [List.length_drop, List.length_take]; rfl)) ?_; (with_reducible refine (leatlaw11_panes.calls k _ _ l1 true _ ?side1 ?side2 A7.out).mono ?_); (case side1 => repeat (first | exact (Kd.C_below HR1.out HB.out) | (with_reducible refine Kd.C_alloc ?_ _) | (with_reducible refine Kd.C_drewN ?_ _) | (with_reducible refine Kd.C_drew ?_))); (case side2 => exact HC1.out); rintro e w10 ⟨rfl, hb⟩; refine ⟨_, rfl, ?_⟩; have n0_ := Aside0.mk (below_step (by repeat (first | (with_reducible first | exact HB.out | apply below_alloc | apply pw_below_drewN | apply below_drew1) | exact HB.out)) hb); clear HB; have HB := n0_; clear n0_; (try clear hb); (try clear hb2); (try clear hk); (try clear hi)))
     go_meet
     case rel => exact ⟨_, (true), (by first | rfl | (simp; done) | (simp [*]; done)), H', ⟨by first | omega | exact Nat.le_refl _⟩, ⟨by repeat (first | (with_reducible first | exact HB.out | apply below_alloc | apply pw_below_drewN | apply below_drew1) | exact HB.out)⟩⟩
    ·rw [if_neg c9] at H
     have c9b0 : decide (a0 < 1) = false := decide_eq_false c9
     clear c9
     (first | rw [c9b0] | (simp only [i64_w, i32_w]; rw [c9b0]) | skip)
     have H' := Aside0.mk H
     clear H
     go_wp2_with (first | ((with_reducible refine gate_callee (f := 25) rfl ?_); refine goesL_ (some 11) rfl rfl Try.func25 (by kernel_rfl) rfl #[.slice A1 l1.length c1] rfl (by (try simp only [List.map_toArray, List.map_cons, List.map_nil]); first | done | rfl | (simp only [List.length_drop, List.length_take]; rfl)) ?_; (with_reducible refine (leatlaw11_panes.calls k _ _ l1 true _ ?side1 ?side2 A7.out).mono ?_); (case side1 => repeat (first | exact (Kd.C_below HR1.out HB.out) | (with_reducible refine Kd.C_alloc ?_ _) | (with_reducible refine Kd.C_drewN ?_ _) | (with_reducible refine Kd.C_drew ?_))); (case side2 => exact HC1.out); rintro e w11 ⟨rfl, hb⟩; refine ⟨_, rfl, ?_⟩; have n0_ := Aside0.mk (below_step (by repeat (first | (with_reducible first | exact HB.out | apply below_alloc | apply pw_below_drewN | apply below_drew1) | exact HB.out)) hb); clear HB; have HB := n0_; clear n0_; (try clear hb); (try clear hb2); (try clear hk); (try clear hi)))
     go_meet
     case rel => exact ⟨_, (decide (a0 > 5)), (by first | rfl | (simp; done) | (simp [*]; done)), H', ⟨by first | omega | exact Nat.le_refl _⟩, ⟨by repeat (first | (with_reducible first | exact HB.out | apply below_alloc | apply pw_below_drewN | apply below_drew1) | exact HB.out)⟩⟩
   ·replace c8 := Bool.eq_false_iff.mpr c8
    subst c8
    have H1 : (leatlaw11_WindowJoin.j0 k a0 l1 true) = some r := by rw [if_neg (show ¬ (false = true) by decide)] at H; exact H
    clear H
    have H := H1
    clear H1
    have H' := Aside0.mk H
    clear H
    go_wp2_with (first | ((with_reducible refine gate_callee (f := 25) rfl ?_); refine goesL_ (some 11) rfl rfl Try.func25 (by kernel_rfl) rfl #[.slice A1 l1.length c1] rfl (by (try simp only [List.map_toArray, List.map_cons, List.map_nil]); first | done | rfl | (simp only [List.length_drop, List.length_take]; rfl)) ?_; (with_reducible refine (leatlaw11_panes.calls k _ _ l1 false _ ?side1 ?side2 A7.out).mono ?_); (case side1 => repeat (first | exact (Kd.C_below HR1.out HB.out) | (with_reducible refine Kd.C_alloc ?_ _) | (with_reducible refine Kd.C_drewN ?_ _) | (with_reducible refine Kd.C_drew ?_))); (case side2 => exact HC1.out); rintro e w12 ⟨rfl, hb⟩; refine ⟨_, rfl, ?_⟩; have n0_ := Aside0.mk (below_step (by repeat (first | (with_reducible first | exact HB.out | apply below_alloc | apply pw_below_drewN | apply below_drew1) | exact HB.out)) hb); clear HB; have HB := n0_; clear n0_; (try clear hb); (try clear hb2); (try clear hk); (try clear hi)))
    go_meet
    case rel => exact ⟨_, (true), (by first | rfl | (simp; done) | (simp [*]; done)), H', ⟨by first | omega | exact Nat.le_refl _⟩, ⟨by repeat (first | (with_reducible first | exact HB.out | apply below_alloc | apply pw_below_drewN | apply below_drew1) | exact HB.out)⟩⟩
  case rest =>
   clear HC5
   try clear c1; try clear c2; try clear p2; try clear c4; try clear c8; try clear c9; try clear c9b0; try clear c10; try clear c12
   obtain ⟨kq, x20_4, rfl, HA, HJ4, HB⟩ := hcut
   cases kq with
   | zero => exact absurd HA.out (by simp [leatlaw11_WindowJoin.j0])
   | succ kj4 =>
    have H := HA.out
    clear HA
    simp only [leatlaw11_WindowJoin.j0] at H
    by_cases c13 : x20_4 = true
    ·subst c13
     have H1 : (some true) = some r := by rw [if_pos rfl] at H; exact H
     clear H
     have H := H1
     clear H1
     obtain rfl := Option.some.inj H
     go_wp2
     go_ret
     exact ⟨by first | rfl | (simp [errW_none, errW_some] <;> rfl) | (simp [*, errW_none, errW_some] <;> rfl), by repeat (first | (with_reducible first | exact HB.out | apply below_alloc | apply pw_below_drewN | apply below_drew1) | exact HB.out)⟩
    ·replace c13 := Bool.eq_false_iff.mpr c13
     subst c13
     have H1 : (leatlaw11_WindowJoin.l0 kj4 a0 l1 ([] : List (S46)) (wrap64 ((l1.length : Int) - 1))) = some r := by rw [if_neg (show ¬ (false = true) by decide)] at H; exact H
     clear H
     have H := H1
     clear H1
     have H' := Aside0.mk H
     clear H
     go_wp2
     go_loopg [5, 6] kj4 (fun kq v5 v6 w' => ∃ (x5_2 : List (S46)) (x6_2 : Int), v6 = .int .i64 x6_2 ∧ Aside0 (leatlaw11_WindowJoin.l0 kq a0 l1 x5_2 x6_2 = some r) ∧ Aside0 (kq ≤ kj4) ∧ Aside0 (Kd.R k46 46 w' w.heap.size (fun _ => True) v5 x5_2) ∧ Aside0 (Below w.heap.size w w'))
     case atStart => exact ⟨(([] : List (S46))), (wrap64 ((l1.length : Int) - 1)), (by first | rfl | (simp; done) | (simp [*]; done)), H', ⟨Nat.le_refl _⟩, ⟨by first | exact Kd.R_nil _ _ _ _ _ | exact Kd.N_nil _ _ _ _ _ | exact Kd.V_nil _ _ _ _ _ | exact Kd.Q_nil _ _ _ _ _ | exact Kd.S_nil _ _ _ _ _⟩, ⟨by repeat (first | (with_reducible first | exact HB.out | apply below_alloc | apply pw_below_drewN | apply below_drew1) | exact HB.out)⟩⟩
     case round =>
      clear H'
      try clear c1; try clear c2; try clear p2; try clear c4; try clear p6; try clear c8; try clear c9; try clear c9b0; try clear c10; try clear c12; try clear c13; try clear p2
      obtain ⟨x5_2, x6_2, rfl, HA, HK2, HO_5, HB⟩ := hrel
      cases gk with
      | zero => exact absurd HA.out (by simp [leatlaw11_WindowJoin.l0])
      | succ k2 =>
       have H := HA.out
       clear HA
       simp only [leatlaw11_WindowJoin.l0] at H
       by_cases c14 : x6_2 ≥ 0
       ·rw [if_pos c14] at H
        have c14b0 : decide (0 ≤ x6_2) = true := decide_eq_true c14
        clear c14
        by_cases c15 : 0 ≤ x6_2
        ·rw [if_pos c15] at H
         have c15b0 : decide (0 ≤ x6_2) = true := decide_eq_true c15
         clear c15
         by_cases c16 : x6_2 < (l1.length : Int)
         ·rw [if_pos c16] at H
          have c16b0 : decide (x6_2 < (l1.length : Int)) = true := decide_eq_true c16
          clear c16
          by_cases c17 : x5_2.length < 4398046511104
          ·rw [if_pos c17] at H
           have LMc17 := Aside0.mk c17
           clear c17
           obtain ⟨y383, hy383⟩ : ∃ y_ : List (S46), y_ = (x5_2 ++ [(⟨(rd_T46 l1 x6_2).f0, (⟨(rd_T46 l1 x6_2).f1.f0, (rd_T46 l1 x6_2).f1.f1⟩ : S31), (rd_T46 l1 x6_2).f2⟩ : S46)]) := ⟨_, rfl⟩
           replace H : (leatlaw11_WindowJoin.l0 k2 a0 l1 y383 (wrap64 (x6_2 - 1))) = some r := by first | (rw [hy383]; with_reducible exact H) | (have H2_ := (Option.bind_some _ _).symm.trans H; rw [hy383]; with_reducible exact H2_) | (have H2_ := (Option.bind_some _ _).symm.trans H; with_reducible exact H2_) | with_reducible exact H | (rw [hy383]; exact H) | exact H
           have Ny383 := Aside0.mk hy383
           clear hy383
           have H' := Aside0.mk H
           clear H
           have p382 : 0 ≤ (x6_2 : Int) := of_decide_eq_true (by first | (with_reducible assumption) | assumption)
           have q382 : x6_2 < (l1.length : Int) := of_decide_eq_true (by first | (with_reducible assumption) | assumption)
           obtain ⟨ad382, e382, hx382_0, hx382_1, hx382_2, hx382_3⟩ := at_T46 HR1.out x6_2 p382 q382
           cases e382
           replace hx382_0 := (HB.out.cell (World.block_lt_of_cell? w _ hx382_0)).trans hx382_0
           replace hx382_1 := (HB.out.cell (World.block_lt_of_cell? w _ hx382_1)).trans hx382_1
           replace hx382_2 := (HB.out.cell (World.block_lt_of_cell? w _ hx382_2)).trans hx382_2
           replace hx382_3 := (HB.out.cell (World.block_lt_of_cell? w _ hx382_3)).trans hx382_3
           replace p382 := eq_true p382
           replace q382 := eq_true q382
           go_wp2_with (first | ((with_reducible refine gate_builtin (b := .append) (xs := #[.tmp 28, .tmp 33]) rfl ?_); at_builtin; refine Kd.R_append k46 (w0 := w) w.heap.size rfl (.tmp 28) (.tmp 33) 35 46 (.agg #[(.int .i64 0), (.int .i64 0), (.int .i64 0), (.int .i64 0)]) 32 rfl Try.underlying35 info46 rfl (by decide) (by omega) u5 x5_2 (⟨(rd_T46 l1 x6_2).f0, (⟨(rd_T46 l1 x6_2).f1.f0, (rd_T46 l1 x6_2).f1.f1⟩ : S31), (rd_T46 l1 x6_2).f2⟩ : S46) [.int .i64 ((rd_T46 l1 x6_2).f0), .int .i64 ((rd_T46 l1 x6_2).f1.f0), .int .i64 ((rd_T46 l1 x6_2).f1.f1), .int .i64 ((rd_T46 l1 x6_2).f2)] (fun _ => True) (fun _ => False) rfl rfl ?aP (fun _ hk => hk.elim) ?aF ?aO ?aB ?aS ?aL ?_; (case aP => exact k46_mkM _ _ _ (⟨(rd_T46 l1 x6_2).f0, (⟨(rd_T46 l1 x6_2).f1.f0, (rd_T46 l1 x6_2).f1.f1⟩ : S31), (rd_T46 l1 x6_2).f2⟩ : S46)); (case aB => exact (by repeat (first | (with_reducible first | exact HB.out | apply below_alloc | apply pw_below_drewN | apply below_drew1) | exact HB.out))); (case aF => exact (fun _ _ => trivial)); (case aO => exact (by (with_reducible repeat (first | apply Kd.R_alloc | apply Kd.R_drewN | apply Kd.R_drew)); exact HO_5.out)); (case aS => exact (below_size (by repeat (first | (with_reducible first | exact HB.out | apply below_alloc | apply pw_below_drewN | apply below_drew1) | exact HB.out)))); (case aL => have := LMc17.out; omega); intro v384 w18 ho hb hg hat; rw [← Ny383.out] at ho; have n0_ := Aside0.mk (hb); have n1_ := Aside0.mk (ho); clear HB; clear HO_5; have HB := n0_; have HO385 := n1_; clear n0_ n1_; clear ho hb hg hat))
           go_roundg k2
           case measure => have := HJ4.out; have := HK2.out; omega
           case rel => exact ⟨(y383), (wrap64 (x6_2 - 1)), (by first | rfl | (simp; done) | (simp [*]; done)), H', ⟨by have := HJ4.out; have := HK2.out; omega⟩, ⟨by (with_reducible repeat (first | apply Kd.R_alloc | apply Kd.R_drewN | apply Kd.R_drew)); exact HO385.out⟩, ⟨by repeat (first | (with_reducible first | exact HB.out | apply below_alloc | apply pw_below_drewN | apply below_drew1) | exact HB.out)⟩⟩
          ·rw [if_neg c17] at H
           exact absurd H (by simp)
         ·rw [if_neg c16] at H
          exact absurd H (by simp)
        ·rw [if_neg c15] at H
         exact absurd H (by simp)
       ·rw [if_neg c14] at H
        have c14b0 : decide (0 ≤ x6_2) = false := decide_eq_false c14
        clear c14
        replace H := Option.bind_eq_some_iff.mp H
        obtain ⟨t386, A190, H⟩ := H
        replace H : ((window_Sort.f l1).bind fun t389 => ((leatref11_Sort.f k2 l1).bind fun t392 => ((leathelp_Panes.f k2 t389 t392).bind fun t395 => (if t395 = true then ((leatref11_Join.f k2 a0 l1).bind fun t396 => ((leathelp_Panes.f k2 t386 t396).bind fun t399 => (if t399 = true then ((window_Join.f a0 x5_2).bind fun t400 => ((leathelp_Panes.f k2 t386 t400).bind fun t403 => (if t403 = true then ((window_Join.f a0 t386).bind fun t404 => ((leathelp_Panes.f k2 t404 t386).bind fun t407 => (if t407 = true then ((window_Sort.f x5_2).bind fun t408 => ((window_Sort.f l1).bind fun t411 => ((leathelp_Panes.f k2 t408 t411).bind fun t414 => (some t414)))) else (none)))) else (none)))) else (none)))) else (none))))) = some r := H
        have A19 := Aside0.mk A190
        clear A190
        replace H := Option.bind_eq_some_iff.mp H
        obtain ⟨t389, A200, H⟩ := H
        replace H : ((leatref11_Sort.f k2 l1).bind fun t392 => ((leathelp_Panes.f k2 t389 t392).bind fun t395 => (if t395 = true then ((leatref11_Join.f k2 a0 l1).bind fun t396 => ((leathelp_Panes.f k2 t386 t396).bind fun t399 => (if t399 = true then ((window_Join.f a0 x5_2).bind fun t400 => ((leathelp_Panes.f k2 t386 t400).bind fun t403 => (if t403 = true then ((window_Join.f a0 t386).bind fun t404 => ((leathelp_Panes.f k2 t404 t386).bind fun t407 => (if t407 = true then ((window_Sort.f x5_2).bind fun t408 => ((window_Sort.f l1).bind fun t411 => ((leathelp_Panes.f k2 t408 t411).bind fun t414 => (some t414)))) else (none)))) else (none)))) else (none)))) else (none)))) = some r := H
        have A20 := Aside0.mk A200
        clear A200
        replace H := Option.bind_eq_some_iff.mp H
        obtain ⟨t392, A210, H⟩ := H
        replace H : ((leathelp_Panes.f k2 t389 t392).bind fun t395 => (if t395 = true then ((leatref11_Join.f k2 a0 l1).bind fun t396 => ((leathelp_Panes.f k2 t386 t396).bind fun t399 => (if t399 = true then ((window_Join.f a0 x5_2).bind fun t400 => ((leathelp_Panes.f k2 t386 t400).bind fun t403 => (if t403 = true then ((window_Join.f a0 t386).bind fun t404 => ((leathelp_Panes.f k2 t404 t386).bind fun t407 => (if t407 = true then ((window_Sort.f x5_2).bind fun t408 => ((window_Sort.f l1).bind fun t411 => ((leathelp_Panes.f k2 t408 t411).bind fun t414 => (some t414)))) else (none)))) else (none)))) else (none)))) else (none))) = some r := H
        have A21 := Aside0.mk A210
        clear A210
        replace H := Option.bind_eq_some_iff.mp H
        obtain ⟨t395, A220, H⟩ := H
        replace H : (if t395 = true then ((leatref11_Join.f k2 a0 l1).bind fun t396 => ((leathelp_Panes.f k2 t386 t396).bind fun t399 => (if t399 = true then ((window_Join.f a0 x5_2).bind fun t400 => ((leathelp_Panes.f k2 t386 t400).bind fun t403 => (if t403 = true then ((window_Join.f a0 t386).bind fun t404 => ((leathelp_Panes.f k2 t404 t386).bind fun t407 => (if t407 = true then ((window_Sort.f x5_2).bind fun t408 => ((window_Sort.f l1).bind fun t411 => ((leathelp_Panes.f k2 t408 t411).bind fun t414 => (some t414)))) else (none)))) else (none)))) else (none)))) else (none)) = some r := H
        have A22 := Aside0.mk A220
        clear A220
        by_cases c23 : t395 = true
        ·subst c23
         have H1 : ((leatref11_Join.f k2 a0 l1).bind fun t396 => ((leathelp_Panes.f k2 t386 t396).bind fun t399 => (if t399 = true then ((window_Join.f a0 x5_2).bind fun t400 => ((leathelp_Panes.f k2 t386 t400).bind fun t403 => (if t403 = true then ((window_Join.f a0 t386).bind fun t404 => ((leathelp_Panes.f k2 t404 t386).bind fun t407 => (if t407 = true then ((window_Sort.f x5_2).bind fun t408 => ((window_Sort.f l1).bind fun t411 => ((leathelp_Panes.f k2 t408 t411).bind fun t414 => (some t414)))) else (none)))) else (none)))) else (none)))) = some r := by rw [if_pos rfl] at H; exact H
         clear H
         have H := H1
         clear H1
         replace H := Option.bind_eq_some_iff.mp H
         obtain ⟨t396, A240, H⟩ := H
         replace H : ((leathelp_Panes.f k2 t386 t396).bind fun t399 => (if t399 = true then ((window_Join.f a0 x5_2).bind fun t400 => ((leathelp_Panes.f k2 t386 t400).bind fun t403 => (if t403 = true then ((window_Join.f a0 t386).bind fun t404 => ((leathelp_Panes.f k2 t404 t386).bind fun t407 => (if t407 = true then ((window_Sort.f x5_2).bind fun t408 => ((window_Sort.f l1).bind fun t411 => ((leathelp_Panes.f k2 t408 t411).bind fun t414 => (some t414)))) else (none)))) else (none)))) else (none))) = some r := H
         have A24 := Aside0.mk A240
         clear A240
         replace H := Option.bind_eq_some_iff.mp H
         obtain ⟨t399, A250, H⟩ := H
         replace H : (if t399 = true then ((window_Join.f a0 x5_2).bind fun t400 => ((leathelp_Panes.f k2 t386 t400).bind fun t403 => (if t403 = true then ((window_Join.f a0 t386).bind fun t404 => ((leathelp_Panes.f k2 t404 t386).bind fun t407 => (if t407 = true then ((window_Sort.f x5_2).bind fun t408 => ((window_Sort.f l1).bind fun t411 => ((leathelp_Panes.f k2 t408 t411).bind fun t414 => (some t414)))) else (none)))) else (none)))) else (none)) = some r := H
         have A25 := Aside0.mk A250
         clear A250
         by_cases c26 : t399 = true
         ·subst c26
          have H1 : ((window_Join.f a0 x5_2).bind fun t400 => ((leathelp_Panes.f k2 t386 t400).bind fun t403 => (if t403 = true then ((window_Join.f a0 t386).bind fun t404 => ((leathelp_Panes.f k2 t404 t386).bind fun t407 => (if t407 = true then ((window_Sort.f x5_2).bind fun t408 => ((window_Sort.f l1).bind fun t411 => ((leathelp_Panes.f k2 t408 t411).bind fun t414 => (some t414)))) else (none)))) else (none)))) = some r := by rw [if_pos rfl] at H; exact H
          clear H
          have H := H1
          clear H1
          replace H := Option.bind_eq_some_iff.mp H
          obtain ⟨t400, A270, H⟩ := H
          replace H : ((leathelp_Panes.f k2 t386 t400).bind fun t403 => (if t403 = true then ((window_Join.f a0 t386).bind fun t404 => ((leathelp_Panes.f k2 t404 t386).bind fun t407 => (if t407 = true then ((window_Sort.f x5_2).bind fun t408 => ((window_Sort.f l1).bind fun t411 => ((leathelp_Panes.f k2 t408 t411).bind fun t414 => (some t414)))) else (none)))) else (none))) = some r := H
          have A27 := Aside0.mk A270
          clear A270
          replace H := Option.bind_eq_some_iff.mp H
          obtain ⟨t403, A280, H⟩ := H
          replace H : (if t403 = true then ((window_Join.f a0 t386).bind fun t404 => ((leathelp_Panes.f k2 t404 t386).bind fun t407 => (if t407 = true then ((window_Sort.f x5_2).bind fun t408 => ((window_Sort.f l1).bind fun t411 => ((leathelp_Panes.f k2 t408 t411).bind fun t414 => (some t414)))) else (none)))) else (none)) = some r := H
          have A28 := Aside0.mk A280
          clear A280
          by_cases c29 : t403 = true
          ·subst c29
           have H1 : ((window_Join.f a0 t386).bind fun t404 => ((leathelp_Panes.f k2 t404 t386).bind fun t407 => (if t407 = true then ((window_Sort.f x5_2).bind fun t408 => ((window_Sort.f l1).bind fun t411 => ((leathelp_Panes.f k2 t408 t411).bind fun t414 => (some t414)))) else (none)))) = some r := by rw [if_pos rfl] at H; exact H
           clear H
           have H := H1
           clear H1
           replace H := Option.bind_eq_some_iff.mp H
           obtain ⟨t404, A300, H⟩ := H
           replace H : ((leathelp_Panes.f k2 t404 t386).bind fun t407 => (if t407 = true then ((window_Sort.f x5_2).bind fun t408 => ((window_Sort.f l1).bind fun t411 => ((leathelp_Panes.f k2 t408 t411).bind fun t414 => (some t414)))) else (none))) = some r := H
           have A30 := Aside0.mk A300
           clear A300
           replace H := Option.bind_eq_some_iff.mp H
           obtain ⟨t407, A310, H⟩ := H
           replace H : (if t407 = true then ((window_Sort.f x5_2).bind fun t408 => ((window_Sort.f l1).bind fun t411 => ((leathelp_Panes.f k2 t408 t411).bind fun t414 => (some t414)))) else (none)) = some r := H
           have A31 := Aside0.mk A310
           clear A310
           by_cases c32 : t407 = true
           ·subst c32
            have H1 : ((window_Sort.f x5_2).bind fun t408 => ((window_Sort.f l1).bind fun t411 => ((leathelp_Panes.f k2 t408 t411).bind fun t414 => (some t414)))) = some r := by rw [if_pos rfl] at H; exact H
            clear H
            have H := H1
            clear H1
            replace H := Option.bind_eq_some_iff.mp H
            obtain ⟨t408, A330, H⟩ := H
            replace H : ((window_Sort.f l1).bind fun t411 => ((leathelp_Panes.f k2 t408 t411).bind fun t414 => (some t414))) = some r := H
            have A33 := Aside0.mk A330
            clear A330
            replace H := Option.bind_eq_some_iff.mp H
            obtain ⟨t411, A340, H⟩ := H
            replace H : ((leathelp_Panes.f k2 t408 t411).bind fun t414 => (some t414)) = some r := H
            have A34 := Aside0.mk A340
            clear A340
            replace H := Option.bind_eq_some_iff.mp H
            obtain ⟨t414, A350, H⟩ := H
            replace H : (some t414) = some r := H
            have A35 := Aside0.mk A350
            clear A350
            obtain rfl := Option.some.inj H
            go_wp2_with (first | ((with_reducible refine gate_callee (f := 28) rfl ?_); refine goesL_ (some 37) rfl rfl Try.func28 (by kernel_rfl) rfl #[.int .i64 a0, .slice A1 l1.length c1] rfl (by (try simp only [List.map_toArray, List.map_cons, List.map_nil]); first | done | rfl | (simp only [List.length_drop, List.length_take]; rfl)) ?_; (with_reducible refine (window_Join.calls a0 _ _ l1 t386 _ ?side1 ?side2 A19.out).mono ?_); (case side1 => repeat (first | exact (Kd.C_below HR1.out HB.out) | (with_reducible refine Kd.C_alloc ?_ _) | (with_reducible refine Kd.C_drewN ?_ _) | (with_reducible refine Kd.C_drew ?_))); (case side2 => exact HC1.out); rintro e w36 ⟨v387, rfl, ho0, hb⟩; refine ⟨_, rfl, ?_⟩; have n0_ := Aside0.mk (Kd.R_elder' (by (with_reducible repeat (first | apply Kd.R_alloc | apply Kd.R_drewN | apply Kd.R_drew)); exact HO_5.out) (Kd.R_base ho0) hb); have n1_ := Aside0.mk (Kd.R_lower (Kd.R_new' ho0 (Kd.R_lt (by (with_reducible repeat (first | apply Kd.R_alloc | apply Kd.R_drewN | apply Kd.R_drew)); exact HO_5.out))) (below_size (by repeat (first | (with_reducible first | exact HB.out | apply below_alloc | apply pw_below_drewN | apply below_drew1) | exact HB.out)))); have n2_ := Aside0.mk (below_step (by repeat (first | (with_reducible first | exact HB.out | apply below_alloc | apply pw_below_drewN | apply below_drew1) | exact HB.out)) hb); clear HO_5; clear HB; have HO_5 := n0_; have HO388 := n1_; have HB := n2_; clear n0_ n1_ n2_; (try clear hb); (try clear hb2); (try clear hk); (try clear hi); (try clear ho0)) | ((with_reducible refine gate_callee (f := 26) rfl ?_); refine goesL_ (some 39) rfl rfl Try.func26 (by kernel_rfl) rfl #[.slice A1 l1.length c1] rfl (by (try simp only [List.map_toArray, List.map_cons, List.map_nil]); first | done | rfl | (simp only [List.length_drop, List.length_take]; rfl)) ?_; (with_reducible refine (window_Sort.calls _ _ l1 t389 _ ?side1 ?side2 A20.out).mono ?_); (case side1 => repeat (first | exact (Kd.C_below HR1.out HB.out) | (with_reducible refine Kd.C_alloc ?_ _) | (with_reducible refine Kd.C_drewN ?_ _) | (with_reducible refine Kd.C_drew ?_))); (case side2 => exact HC1.out); rintro e w37 ⟨v390, rfl, ho0, hb⟩; refine ⟨_, rfl, ?_⟩; have n0_ := Aside0.mk (Kd.R_elder' (by (with_reducible repeat (first | apply Kd.R_alloc | apply Kd.R_drewN | apply Kd.R_drew)); exact HO_5.out) (Kd.R_base ho0) hb); have n1_ := Aside0.mk (Kd.R_elder' (by (with_reducible repeat (first | apply Kd.R_alloc | apply Kd.R_drewN | apply Kd.R_drew)); exact HO388.out) (Kd.R_base ho0) hb); have n2_ := Aside0.mk (Kd.R_lower (Kd.R_new' (Kd.R_new' ho0 (Kd.R_lt (by (with_reducible repeat (first | apply Kd.R_alloc | apply Kd.R_drewN | apply Kd.R_drew)); exact HO_5.out))) (Kd.R_lt (by (with_reducible repeat (first | apply Kd.R_alloc | apply Kd.R_drewN | apply Kd.R_drew)); exact HO388.out))) (below_size (by repeat (first | (with_reducible first | exact HB.out | apply below_alloc | apply pw_below_drewN | apply below_drew1) | exact HB.out)))); have n3_ := Aside0.mk (below_step (by repeat (first | (with_reducible first | exact HB.out | apply below_alloc | apply pw_below_drewN | apply below_drew1) | exact HB.out)) hb); clear HO_5; clear HO388; clear HB; have HO_5 := n0_; have HO388 := n1_; have HO391 := n2_; have HB := n3_; clear n0_ n1_ n2_ n3_; (try clear hb); (try clear hb2); (try clear hk); (try clear hi); (try clear ho0)) | ((with_reducible refine gate_callee (f := 29) rfl ?_); refine goesL_ (some 41) rfl rfl Try.func29 (by kernel_rfl) rfl #[.slice A1 l1.length c1] rfl (by (try simp only [List.map_toArray, List.map_cons, List.map_nil]); first | done | rfl | (simp only [List.length_drop, List.length_take]; rfl)) ?_; (with_reducible refine (leatref11_Sort.calls k2 _ _ l1 t392 _ ?side1 ?side2 A21.out).mono ?_); (case side1 => repeat (first | exact (Kd.C_below HR1.out HB.out) | (with_reducible refine Kd.C_alloc ?_ _) | (with_reducible refine Kd.C_drewN ?_ _) | (with_reducible refine Kd.C_drew ?_))); (case side2 => exact HC1.out); rintro e w38 ⟨v393, rfl, ho0, hb⟩; refine ⟨_, rfl, ?_⟩; have n0_ := Aside0.mk (Kd.R_elder' (by (with_reducible repeat (first | apply Kd.R_alloc | apply Kd.R_drewN | apply Kd.R_drew)); exact HO_5.out) (Kd.R_base ho0) hb); have n1_ := Aside0.mk (Kd.R_elder' (by (with_reducible repeat (first | apply Kd.R_alloc | apply Kd.R_drewN | apply Kd.R_drew)); exact HO388.out) (Kd.R_base ho0) hb); have n2_ := Aside0.mk (Kd.R_elder' (by (with_reducible repeat (first | apply Kd.R_alloc | apply Kd.R_drewN | apply Kd.R_drew)); exact HO391.out) (Kd.R_base ho0) hb); have n3_ := Aside0.mk (Kd.R_lower (Kd.R_new' (Kd.R_new' (Kd.R_new' ho0 (Kd.R_lt (by (with_reducible repeat (first | apply Kd.R_alloc | apply Kd.R_drewN | apply Kd.R_drew)); exact HO_5.out))) (Kd.R_lt (by (with_reducible repeat (first | apply Kd.R_alloc | apply Kd.R_drewN | apply Kd.R_drew)); exact HO388.out))) (Kd.R_lt (by (with_reducible repeat (first | apply Kd.R_alloc | apply Kd.R_drewN | apply Kd.R_drew)); exact HO391.out))) (below_size (by repeat (first | (with_reducible first | exact HB.out | apply below_alloc | apply pw_below_drewN | apply below_drew1) | exact HB.out)))); have n4_ := Aside0.mk (below_step (by repeat (first | (with_reducible first | exact HB.out | apply below_alloc | apply pw_below_drewN | apply below_drew1) | exact HB.out)) hb); clear HO_5; clear HO388; clear HO391; clear HB; have HO_5 := n0_; have HO388 := n1_; have HO391 := n2_; have HO394 := n3_; have HB := n4_; clear n0_ n1_ n2_ n3_ n4_; (try clear hb); (try clear hb2); (try clear hk); (try clear hi); (try clear ho0); obtain ⟨Ao39, co39, eo39⟩ := Kd.R_slice HO391.out; subst eo39; obtain ⟨Ao40, co40, eo40⟩ := Kd.R_slice HO394.out; subst eo40) | ((with_reducible refine gate_callee (f := 19) rfl ?_); refine goesL_ (some 42) rfl rfl Try.func19 (by kernel_rfl) rfl #[.slice Ao39 t389.length co39, .slice Ao40 t392.length co40] rfl (by (try simp only [List.map_toArray, List.map_cons, List.map_nil]); first | done | rfl | (simp only [List.length_drop, List.length_take]; rfl)) ?_; (with_reducible refine (leathelp_Panes.calls k2 _ _ t389 _ _ t392 true _ ?side1 ?side2 ?side3 ?side4 A22.out).mono ?_); (case side1 => repeat (first | exact (Kd.R_reads' HO391.out).2.2 | (with_reducible refine Kd.C_alloc ?_ _) | (with_reducible refine Kd.C_drewN ?_ _) | (with_reducible refine Kd.C_drew ?_))); (case side2 => exact (Kd.R_reads' HO391.out).2.1); (case side3 => repeat (first | exact (Kd.R_reads' HO394.out).2.2 | (with_reducible refine Kd.C_alloc ?_ _) | (with_reducible refine Kd.C_drewN ?_ _) | (with_reducible refine Kd.C_drew ?_))); (case side4 => exact (Kd.R_reads' HO394.out).2.1); rintro e w' ⟨rfl, ⟨nd, rfl⟩⟩; refine ⟨_, rfl, ?_⟩) | (go_at_call 30; (with_reducible refine (leatref11_Join.calls k2 a0 _ _ l1 t396 _ ?side1 ?side2 A24.out).mono ?_); (case side1 => repeat (first | exact (Kd.C_below HR1.out (by repeat (first | (with_reducible first | exact HB.out | apply below_alloc | apply pw_below_drewN | apply below_drew1) | exact HB.out))) | (with_reducible refine Kd.C_alloc ?_ _) | (with_reducible refine Kd.C_drewN ?_ _) | (with_reducible refine Kd.C_drew ?_))); (case side2 => exact HC1.out); rintro e w41 ⟨v397, rfl, ho0, hb⟩; have n0_ := Aside0.mk (Kd.R_elder' (by (with_reducible repeat (first | apply Kd.R_alloc | apply Kd.R_drewN | apply Kd.R_drew)); exact HO_5.out) (Kd.R_base ho0) hb); have n1_ := Aside0.mk (Kd.R_elder' (by (with_reducible repeat (first | apply Kd.R_alloc | apply Kd.R_drewN | apply Kd.R_drew)); exact HO388.out) (Kd.R_base ho0) hb); have n2_ := Aside0.mk (Kd.R_elder' (by (with_reducible repeat (first | apply Kd.R_alloc | apply Kd.R_drewN | apply Kd.R_drew)); exact HO391.out) (Kd.R_base ho0) hb); have n3_ := Aside0.mk (Kd.R_elder' (by (with_reducible repeat (first | apply Kd.R_alloc | apply Kd.R_drewN | apply Kd.R_drew)); exact HO394.out) (Kd.R_base ho0) hb); have n4_ := Aside0.mk (Kd.R_lower (Kd.R_new' (Kd.R_new' (Kd.R_new' (Kd.R_new' ho0 (Kd.R_lt (by (with_reducible repeat (first | apply Kd.R_alloc | apply Kd.R_drewN | apply Kd.R_drew)); exact HO_5.out))) (Kd.R_lt (by (with_reducible repeat (first | apply Kd.R_alloc | apply Kd.R_drewN | apply Kd.R_drew)); exact HO388.out))) (Kd.R_lt (by (with_reducible repeat (first | apply Kd.R_alloc | apply Kd.R_drewN | apply Kd.R_drew)); exact HO391.out))) (Kd.R_lt (by (with_reducible repeat (first | apply Kd.R_alloc | apply Kd.R_drewN | apply Kd.R_drew)); exact HO394.out))) (below_size (by repeat (first | (with_reducible first | exact HB.out | apply below_alloc | apply pw_below_drewN | apply below_drew1) | exact HB.out)))); have n5_ := Aside0.mk (below_step (by repeat (first | (with_reducible first | exact HB.out | apply below_alloc | apply pw_below_drewN | apply below_drew1) | exact HB.out)) hb); clear HO_5; clear HO388; clear HO391; clear HO394; clear HB; have HO_5 := n0_; have HO388 := n1_; have HO391 := n2_; have HO394 := n3_; have HO398 := n4_; have HB := n5_; clear n0_ n1_ n2_ n3_ n4_ n5_; (try clear hb); (try clear hb2); (try clear hk); (try clear hi); (try clear ho0); obtain ⟨Ao42, co42, eo42⟩ := Kd.R_slice HO388.out; subst eo42; obtain ⟨Ao43, co43, eo43⟩ := Kd.R_slice HO398.out; subst eo43) | (go_at_call 19; (with_reducible refine (leathelp_Panes.calls k2 _ _ t386 _ _ t396 true _ ?side1 ?side2 ?side3 ?side4 A25.out).mono ?_); (case side1 => repeat (first | exact (Kd.R_reads' HO388.out).2.2 | (with_reducible refine Kd.C_alloc ?_ _) | (with_reducible refine Kd.C_drewN ?_ _) | (with_reducible refine Kd.C_drew ?_))); (case side2 => exact (Kd.R_reads' HO388.out).2.1); (case side3 => repeat (first | exact (Kd.R_reads' HO398.out).2.2 | (with_reducible refine Kd.C_alloc ?_ _) | (with_reducible refine Kd.C_drewN ?_ _) | (with_reducible refine Kd.C_drew ?_))); (case side4 => exact (Kd.R_reads' HO398.out).2.1); rintro e w' ⟨rfl, ⟨nd, rfl⟩⟩; obtain ⟨Ao44, co44, eo44⟩ := Kd.R_slice HO_5.out; subst eo44) | (go_at_call 28; (with_reducible refine (window_Join.calls a0 _ _ x5_2 t400 _ ?side1 ?side2 A27.out).mono ?_); (case side1 => repeat (first | exact (Kd.R_reads' HO_5.out).2.2 | (with_reducible refine Kd.C_alloc ?_ _) | (with_reducible refine Kd.C_drewN ?_ _) | (with_reducible refine Kd.C_drew ?_))); (case side2 => exact (Kd.R_reads' HO_5.out).2.1); rintro e w45 ⟨v401, rfl, ho0, hb⟩; have n0_ := Aside0.mk (Kd.R_elder' (by (with_reducible repeat (first | apply Kd.R_alloc | apply Kd.R_drewN | apply Kd.R_drew)); exact HO_5.out) (Kd.R_base ho0) hb); have n1_ := Aside0.mk (Kd.R_elder' (by (with_reducible repeat (first | apply Kd.R_alloc | apply Kd.R_drewN | apply Kd.R_drew)); exact HO388.out) (Kd.R_base ho0) hb); have n2_ := Aside0.mk (Kd.R_elder' (by (with_reducible repeat (first | apply Kd.R_alloc | apply Kd.R_drewN | apply Kd.R_drew)); exact HO391.out) (Kd.R_base ho0) hb); have n3_ := Aside0.mk (Kd.R_elder' (by (with_reducible repeat (first | apply Kd.R_alloc | apply Kd.R_drewN | apply Kd.R_drew)); exact HO394.out) (Kd.R_base ho0) hb); have n4_ := Aside0.mk (Kd.R_elder' (by (with_reducible repeat (first | apply Kd.R_alloc | apply Kd.R_drewN | apply Kd.R_drew)); exact HO398.out) (Kd.R_base ho0) hb); have n5_ := Aside0.mk (Kd.R_lower (Kd.R_new' (Kd.R_new' (Kd.R_new' (Kd.R_new' (Kd.R_new' ho0 (Kd.R_lt (by (with_reducible repeat (first | apply Kd.R_alloc | apply Kd.R_drewN | apply Kd.R_drew)); exact HO_5.out))) (Kd.R_lt (by (with_reducible repeat (first | apply Kd.R_alloc | apply Kd.R_drewN | apply Kd.R_drew)); exact HO388.out))) (Kd.R_lt (by (with_reducible repeat (first | apply Kd.R_alloc | apply Kd.R_drewN | apply Kd.R_drew)); exact HO391.out))) (Kd.R_lt (by (with_reducible repeat (first | apply Kd.R_alloc | apply Kd.R_drewN | apply Kd.R_drew)); exact HO394.out))) (Kd.R_lt (by (with_reducible repeat (first | apply Kd.R_alloc | apply Kd.R_drewN | apply Kd.R_drew)); exact HO398.out))) (below_size (by repeat (first | (with_reducible first | exact HB.out | apply below_alloc | apply pw_below_drewN | apply below_drew1) | exact HB.out)))); have n6_ := Aside0.mk (below_step (by repeat (first | (with_reducible first | exact HB.out | apply below_alloc | apply pw_below_drewN | apply below_drew1) | exact HB.out)) hb); clear HO_5; clear HO388; clear HO391; clear HO394; clear HO398; clear HB; have HO_5 := n0_; have HO388 := n1_; have HO391 := n2_; have HO394 := n3_; have HO398 := n4_; have HO402 := n5_; have HB := n6_; clear n0_ n1_ n2_ n3_ n4_ n5_ n6_; (try clear hb); (try clear hb2); (try clear hk); (try clear hi); (try clear ho0); obtain ⟨Ao46, co46, eo46⟩ := Kd.R_slice HO402.out; subst eo46) | (go_at_call 19; (with_reducible refine (leathelp_Panes.calls k2 _ _ t386 _ _ t400 true _ ?side1 ?side2 ?side3 ?side4 A28.out).mono ?_); (case side1 => repeat (first | exact (Kd.R_reads' HO388.out).2.2 | (with_reducible refine Kd.C_alloc ?_ _) | (with_reducible refine Kd.C_drewN ?_ _) | (with_reducible refine Kd.C_drew ?_))); (case side2 => exact (Kd.R_reads' HO388.out).2.1); (case side3 => repeat (first | exact (Kd.R_reads' HO402.out).2.2 | (with_reducible refine Kd.C_alloc ?_ _) | (with_reducible refine Kd.C_drewN ?_ _) | (with_reducible refine Kd.C_drew ?_))); (case side4 => exact (Kd.R_reads' HO402.out).2.1); rintro e w' ⟨rfl, ⟨nd, rfl⟩⟩) | (go_at_call 28; (with_reducible refine (window_Join.calls a0 _ _ t386 t404 _ ?side1 ?side2 A30.out).mono ?_); (case side1 => repeat (first | exact (Kd.R_reads' HO388.out).2.2 | (with_reducible refine Kd.C_alloc ?_ _) | (with_reducible refine Kd.C_drewN ?_ _) | (with_reducible refine Kd.C_drew ?_))); (case side2 => exact (Kd.R_reads' HO388.out).2.1); rintro e w47 ⟨v405, rfl, ho0, hb⟩; have n0_ := Aside0.mk (Kd.R_elder' (by (with_reducible repeat (first | apply Kd.R_alloc | apply Kd.R_drewN | apply Kd.R_drew)); exact HO_5.out) (Kd.R_base ho0) hb); have n1_ := Aside0.mk (Kd.R_elder' (by (with_reducible repeat (first | apply Kd.R_alloc | apply Kd.R_drewN | apply Kd.R_drew)); exact HO388.out) (Kd.R_base ho0) hb); have n2_ := Aside0.mk (Kd.R_elder' (by (with_reducible repeat (first | apply Kd.R_alloc | apply Kd.R_drewN | apply Kd.R_drew)); exact HO391.out) (Kd.R_base ho0) hb); have n3_ := Aside0.mk (Kd.R_elder' (by (with_reducible repeat (first | apply Kd.R_alloc | apply Kd.R_drewN | apply Kd.R_drew)); exact HO394.out) (Kd.R_base ho0) hb); have n4_ := Aside0.mk (Kd.R_elder' (by (with_reducible repeat (first | apply Kd.R_alloc | apply Kd.R_drewN | apply Kd.R_drew)); exact HO398.out) (Kd.R_base ho0) hb); have n5_ := Aside0.mk (Kd.R_elder' (by (with_reducible repeat (first | apply Kd.R_alloc | apply Kd.R_drewN | apply Kd.R_drew)); exact HO402.out) (Kd.R_base ho0) hb); have n6_ := Aside0.mk (Kd.R_lower (Kd.R_new' (Kd.R_new' (Kd.R_new' (Kd.R_new' (Kd.R_new' (Kd.R_new' ho0 (Kd.R_lt (by (with_reducible repeat (first | apply Kd.R_alloc | apply Kd.R_drewN | apply Kd.R_drew)); exact HO_5.out))) (Kd.R_lt (by (with_reducible repeat (first | apply Kd.R_alloc | apply Kd.R_drewN | apply Kd.R_drew)); exact HO388.out))) (Kd.R_lt (by (with_reducible repeat (first | apply Kd.R_alloc | apply Kd.R_drewN | apply Kd.R_drew)); exact HO391.out))) (Kd.R_lt (by (with_reducible repeat (first | apply Kd.R_alloc | apply Kd.R_drewN | apply Kd.R_drew)); exact HO394.out))) (Kd.R_lt (by (with_reducible repeat (first | apply Kd.R_alloc | apply Kd.R_drewN | apply Kd.R_drew)); exact HO398.out))) (Kd.R_lt (by (with_reducible repeat (first | apply Kd.R_alloc | apply Kd.R_drewN | apply Kd.R_drew)); exact HO402.out))) (below_size (by repeat (first | (with_reducible first | exact HB.out | apply below_alloc | apply pw_below_drewN | apply below_drew1) | exact HB.out)))); have n7_ := Aside0.mk (below_step (by repeat (first | (with_reducible first | exact HB.out | apply below_alloc | apply pw_below_drewN | apply below_drew1) | exact HB.out)) hb); clear HO_5; clear HO388; clear HO391; clear HO394; clear HO398; clear HO402; clear HB; have HO_5 := n0_; have HO388 := n1_; have HO391 := n2_; have HO394 := n3_; have HO398 := n4_; have HO402 := n5_; have HO406 := n6_; have HB := n7_; clear n0_ n1_ n2_ n3_ n4_ n5_ n6_ n7_; (try clear hb); (try clear hb2); (try clear hk); (try clear hi); (try clear ho0); obtain ⟨Ao48, co48, eo48⟩ := Kd.R_slice HO406.out; subst eo48) | (go_at_call 19; (with_reducible refine (leathelp_Panes.calls k2 _ _ t404 _ _ t386 true _ ?side1 ?side2 ?side3 ?side4 A31.out).mono ?_); (case side1 => repeat (first | exact (Kd.R_reads' HO406.out).2.2 | (with_reducible refine Kd.C_alloc ?_ _) | (with_reducible refine Kd.C_drewN ?_ _) | (with_reducible refine Kd.C_drew ?_))); (case side2 => exact (Kd.R_reads' HO406.out).2.1); (case side3 => repeat (first | exact (Kd.R_reads' HO388.out).2.2 | (with_reducible refine Kd.C_alloc ?_ _) | (with_reducible refine Kd.C_drewN ?_ _) | (with_reducible refine Kd.C_drew ?_))); (case side4 => exact (Kd.R_reads' HO388.out).2.1); rintro e w' ⟨rfl, ⟨nd, rfl⟩⟩) | (go_at_call 26; (with_reducible refine (window_Sort.calls _ _ x5_2 t408 _ ?side1 ?side2 A33.out).mono ?_); (case side1 => repeat (first | exact (Kd.R_reads' HO_5.out).2.2 | (with_reducible refine Kd.C_alloc ?_ _) | (with_reducible refine Kd.C_drewN ?_ _) | (with_reducible refine Kd.C_drew ?_))); (case side2 => exact (Kd.R_reads' HO_5.out).2.1); rintro e w49 ⟨v409, rfl, ho0, hb⟩; have n0_ := Aside0.mk (Kd.R_elder' (by (with_reducible repeat (first | apply Kd.R_alloc | apply Kd.R_drewN | apply Kd.R_drew)); exact HO_5.out) (Kd.R_base ho0) hb); have n1_ := Aside0.mk (Kd.R_elder' (by (with_reducible repeat (first | apply Kd.R_alloc | apply Kd.R_drewN | apply Kd.R_drew)); exact HO388.out) (Kd.R_base ho0) hb); have n2_ := Aside0.mk (Kd.R_elder' (by (with_reducible repeat (first | apply Kd.R_alloc | apply Kd.R_drewN | apply Kd.R_drew)); exact HO391.out) (Kd.R_base ho0) hb); have n3_ := Aside0.mk (Kd.R_elder' (by (with_reducible repeat (first | apply Kd.R_alloc | apply Kd.R_drewN | apply Kd.R_drew)); exact HO394.out) (Kd.R_base ho0) hb); have n4_ := Aside0.mk (Kd.R_elder' (by (with_reducible repeat (first | apply Kd.R_alloc | apply Kd.R_drewN | apply Kd.R_drew)); exact HO398.out) (Kd.R_base ho0) hb); have n5_ := Aside0.mk (Kd.R_elder' (by (with_reducible repeat (first | apply Kd.R_alloc | apply Kd.R_drewN | apply Kd.R_drew)); exact HO402.out) (Kd.R_base ho0) hb); have n6_ := Aside0.mk (Kd.R_elder' (by (with_reducible repeat (first | apply Kd.R_alloc | apply Kd.R_drewN | apply Kd.R_drew)); exact HO406.out) (Kd.R_base ho0) hb); have n7_ := Aside0.mk (Kd.R_lower (Kd.R_new' (Kd.R_new' (Kd.R_new' (Kd.R_new' (Kd.R_new' (Kd.R_new' (Kd.R_new' ho0 (Kd.R_lt (by (with_reducible repeat (first | apply Kd.R_alloc | apply Kd.R_drewN | apply Kd.R_drew)); exact HO_5.out))) (Kd.R_lt (by (with_reducible repeat (first | apply Kd.R_alloc | apply Kd.R_drewN | apply Kd.R_drew)); exact HO388.out))) (Kd.R_lt (by (with_reducible repeat (first | apply Kd.R_alloc | apply Kd.R_drewN | apply Kd.R_drew)); exact HO391.out))) (Kd.R_lt (by (with_reducible repeat (first | apply Kd.R_alloc | apply Kd.R_drewN | apply Kd.R_drew)); exact HO394.out))) (Kd.R_lt (by (with_reducible repeat (first | apply Kd.R_alloc | apply Kd.R_drewN | apply Kd.R_drew)); exact HO398.out))) (Kd.R_lt (by (with_reducible repeat (first | apply Kd.R_alloc | apply Kd.R_drewN | apply Kd.R_drew)); exact HO402.out))) (Kd.R_lt (by (with_reducible repeat (first | apply Kd.R_alloc | apply Kd.R_drewN | apply Kd.R_drew)); exact HO406.out))) (below_size (by repeat (first | (with_reducible first | exact HB.out | apply below_alloc | apply pw_below_drewN | apply below_drew1) | exact HB.out)))); have n8_ := Aside0.mk (below_step (by repeat (first | (with_reducible first | exact HB.out | apply below_alloc | apply pw_below_drewN | apply below_drew1) | exact HB.out)) hb); clear HO_5; clear HO388; clear HO391; clear HO394; clear HO398; clear HO402; clear HO406; clear HB; have HO_5 := n0_; have HO388 := n1_; have HO391 := n2_; have HO394 := n3_; have HO398 := n4_; have HO402 := n5_; have HO406 := n6_; have HO410 := n7_; have HB := n8_; clear n0_ n1_ n2_ n3_ n4_ n5_ n6_ n7_ n8_; (try clear hb); (try clear hb2); (try clear hk); (try clear hi); (try clear ho0)) | (go_at_call 26; (with_reducible refine (window_Sort.calls _ _ l1 t411 _ ?side1 ?side2 A34.out).mono ?_); (case side1 => repeat (first | exact (Kd.C_below HR1.out HB.out) | (with_reducible refine Kd.C_alloc ?_ _) | (with_reducible refine Kd.C_drewN ?_ _) | (with_reducible refine Kd.C_drew ?_))); (case side2 => exact HC1.out); rintro e w50 ⟨v412, rfl, ho0, hb⟩; have n0_ := Aside0.mk (Kd.R_elder' (by (with_reducible repeat (first | apply Kd.R_alloc | apply Kd.R_drewN | apply Kd.R_drew)); exact HO_5.out) (Kd.R_base ho0) hb); have n1_ := Aside0.mk (Kd.R_elder' (by (with_reducible repeat (first | apply Kd.R_alloc | apply Kd.R_drewN | apply Kd.R_drew)); exact HO388.out) (Kd.R_base ho0) hb); have n2_ := Aside0.mk (Kd.R_elder' (by (with_reducible repeat (first | apply Kd.R_alloc | apply Kd.R_drewN | apply Kd.R_drew)); exact HO391.out) (Kd.R_base ho0) hb); have n3_ := Aside0.mk (Kd.R_elder' (by (with_reducible repeat (first | apply Kd.R_alloc | apply Kd.R_drewN | apply Kd.R_drew)); exact HO394.out) (Kd.R_base ho0) hb); have n4_ := Aside0.mk (Kd.R_elder' (by (with_reducible repeat (first | apply Kd.R_alloc | apply Kd.R_drewN | apply Kd.R_drew)); exact HO398.out) (Kd.R_base ho0) hb); have n5_ := Aside0.mk (Kd.R_elder' (by (with_reducible repeat (first | apply Kd.R_alloc | apply Kd.R_drewN | apply Kd.R_drew)); exact HO402.out) (Kd.R_base ho0) hb); have n6_ := Aside0.mk (Kd.R_elder' (by (with_reducible repeat (first | apply Kd.R_alloc | apply Kd.R_drewN | apply Kd.R_drew)); exact HO406.out) (Kd.R_base ho0) hb); have n7_ := Aside0.mk (Kd.R_elder' (by (with_reducible repeat (first | apply Kd.R_alloc | apply Kd.R_drewN | apply Kd.R_drew)); exact HO410.out) (Kd.R_base ho0) hb); have n8_ := Aside0.mk (Kd.R_lower (Kd.R_new' (Kd.R_new' (Kd.R_new' (Kd.R_new' (Kd.R_new' (Kd.R_new' (Kd.R_new' (Kd.R_new' ho0 (Kd.R_lt (by (with_reducible repeat (first | apply Kd.R_alloc | apply Kd.R_drewN | apply Kd.R_drew)); exact HO_5.out))) (Kd.R_lt (by (with_reducible repeat (first | apply Kd.R_alloc | apply Kd.R_drewN | apply Kd.R_drew)); exact HO388.out))) (Kd.R_lt (by (with_reducible repeat (first | apply Kd.R_alloc | apply Kd.R_drewN | apply Kd.R_drew)); exact HO391.out))) (Kd.R_lt (by (with_reducible repeat (first | apply Kd.R_alloc | apply Kd.R_drewN | apply Kd.R_drew)); exact HO394.out))) (Kd.R_lt (by (with_reducible repeat (first | apply Kd.R_alloc | apply Kd.R_drewN | apply Kd.R_drew)); exact HO398.out))) (Kd.R_lt (by (with_reducible repeat (first | apply Kd.R_alloc | apply Kd.R_drewN | apply Kd.R_drew)); exact HO402.out))) (Kd.R_lt (by (with_reducible repeat (first | apply Kd.R_alloc | apply Kd.R_drewN | apply Kd.R_drew)); exact HO406.out))) (Kd.R_lt (by (with_reducible repeat (first | apply Kd.R_alloc | apply Kd.R_drewN | apply Kd.R_drew)); exact HO410.out))) (below_size (by repeat (first | (with_reducible first | exact HB.out | apply below_alloc | apply pw_below_drewN | apply below_drew1) | exact HB.out)))); have n9_ := Aside0.mk (below_step (by repeat (first | (with_reducible first | exact HB.out | apply below_alloc | apply pw_below_drewN | apply below_drew1) | exact HB.out)) hb); clear HO_5; clear HO388; clear HO391; clear HO394; clear HO398; clear HO402; clear HO406; clear HO410; clear HB; have HO_5 := n0_; have HO388 := n1_; have HO391 := n2_; have HO394 := n3_; have HO398 := n4_; have HO402 := n5_; have HO406 := n6_; have HO410 := n7_; have HO413 := n8_; have HB := n9_; clear n0_ n1_ n2_ n3_ n4_ n5_ n6_ n7_ n8_ n9_; (try clear hb); (try clear hb2); (try clear hk); (try clear hi); (try clear ho0); obtain ⟨Ao51, co51, eo51⟩ := Kd.R_slice HO410.out; subst eo51; obtain ⟨Ao52, co52, eo52⟩ := Kd.R_slice HO413.out; subst eo52) | (go_at_call 19; (with_reducible refine (leathelp_Panes.calls k2 _ _ t408 _ _ t411 t414 _ ?side1 ?side2 ?side3 ?side4 A35.out).mono ?_); (case side1 => repeat (first | exact (Kd.R_reads' HO410.out).2.2 | (with_reducible refine Kd.C_alloc ?_ _) | (with_reducible refine Kd.C_drewN ?_ _) | (with_reducible refine Kd.C_drew ?_))); (case side2 => exact (Kd.R_reads' HO410.out).2.1); (case side3 => repeat (first | exact (Kd.R_reads' HO413.out).2.2 | (with_reducible refine Kd.C_alloc ?_ _) | (with_reducible refine Kd.C_drewN ?_ _) | (with_reducible refine Kd.C_drew ?_))); (case side4 => exact (Kd.R_reads' HO413.out).2.1); rintro e w' ⟨rfl, ⟨nd, rfl⟩⟩))
            go_ret
            exact ⟨by first | rfl | (simp [errW_none, errW_some] <;> rfl) | (simp [*, errW_none, errW_some] <;> rfl), by repeat (first | (with_reducible first | exact HB.out | apply below_alloc | apply pw_below_drewN | apply below_drew1) | exact HB.out)⟩
           ·replace c32 := Bool.eq_false_iff.mpr c32
            subst c32
            have H1 : (none) = some r := by rw [if_neg (show ¬ (false = true) by decide)] at H; exact H
            clear H
            have H := H1
            clear H1
            exact absurd H (by simp)
          ·replace c29 := Bool.eq_false_iff.mpr c29
           subst c29
           have H1 : (none) = some r := by rw [if_neg (show ¬ (false = true) by decide)] at H; exact H
           clear H
           have H := H1
           clear H1
           exact absurd H (by simp)
         ·replace c26 := Bool.eq_false_iff.mpr c26
          subst c26
          have H1 : (none) = some r := by rw [if_neg (show ¬ (false = true) by decide)] at H; exact H
          clear H
          have H := H1
          clear H1
          exact absurd H (by simp)
        ·replace c23 := Bool.eq_false_iff.mpr c23
         subst c23
         have H1 : (none) = some r := by rw [if_neg (show ¬ (false = true) by decide)] at H; exact H
         clear H
         have H := H1
         clear H1
         exact absurd H (by simp)
 ·replace c4 := Bool.eq_false_iff.mpr c4
  subst c4
  have H1 : (none) = some r := by rw [if_neg (show ¬ (false = true) by decide)] at H; exact H
  clear H
  have H := H1
  clear H1
  exact absurd H (by simp)
end Go.Proofs.Ytdinbnbogdadgaa.X
