/- Proofs towards the laws of this seat, joined. No conditions beyond those typed. -/
import Derived.Test.YtdinbnbogdadgaaB10
import Derived.Test.YtdinbnbogdadgaaDXf44
namespace Go.Proofs.Ytdinbnbogdadgaa.X
open Go.RowKit Go.Proofs.YtdinbnbogdadgaaW.PrintWords Go.Proofs.YtdinbnbogdadgaaW.PrintLast Go.Proofs.YtdinbnbogdadgaaW.PrintMore
attribute [local go_sem] max2_int min2_int max_two min_two max_three min_three max_four min_four   -- for this text's walks alone
set_option linter.unusedVariables false
set_option linter.unusedSimpArgs false
mutual
def leatref11_Sort.l0 : Nat → List (S46) → List (S46) → Int → Option ((List (S46)))
 | 0, _, _, _ => none
 | k + 1, x0, x3, x4 => if x4 < (x0.length : Int) then (leatref11_Sort.l1 k x0 x3 x4 0 (x3.length : Int)) else (some x3)
def leatref11_Sort.l1 : Nat → List (S46) → List (S46) → Int → Int → Int → Option ((List (S46)))
 | 0, _, _, _, _, _ => none
 | k + 1, x0, x3, x4, x5, x6 => if x5 < x6 then (if 0 ≤ x4 then (if x4 < (x0.length : Int) then (if 0 ≤ (wrap64 (Int.tdiv (wrap64 (x5 + x6)) 2)) then (if (wrap64 (Int.tdiv (wrap64 (x5 + x6)) 2)) < (x3.length : Int) then ((leatref11_less.f ((rd_T46 x0 x4).f0) ((rd_T46 x0 x4).f1.f0) ((rd_T46 x0 x4).f1.f1) ((rd_T46 x0 x4).f2) ((rd_T46 x3 (wrap64 (Int.tdiv (wrap64 (x5 + x6)) 2))).f0) ((rd_T46 x3 (wrap64 (Int.tdiv (wrap64 (x5 + x6)) 2))).f1.f0) ((rd_T46 x3 (wrap64 (Int.tdiv (wrap64 (x5 + x6)) 2))).f1.f1) ((rd_T46 x3 (wrap64 (Int.tdiv (wrap64 (x5 + x6)) 2))).f2)).bind fun t224 => (if t224 = true then (leatref11_Sort.l1 k x0 x3 x4 x5 (wrap64 (Int.tdiv (wrap64 (x5 + x6)) 2))) else (leatref11_Sort.l1 k x0 x3 x4 (wrap64 ((wrap64 (Int.tdiv (wrap64 (x5 + x6)) 2)) + 1)) x6))) else (none)) else (none)) else (none)) else (none)) else (if x3.length < 4398046511104 then ((some (x3 ++ [(⟨0, (⟨0, 0⟩ : S31), 0⟩ : S46)] : List (S46))).bind fun y225 => (leatref11_Sort.l2 k x0 y225 x4 x5 (wrap64 ((y225.length : Int) - 1)))) else (none))
def leatref11_Sort.l2 : Nat → List (S46) → List (S46) → Int → Int → Int → Option ((List (S46)))
 | 0, _, _, _, _, _ => none
 | k + 1, x0, x3, x4, x5, x8 => if x8 > x5 then (if 0 ≤ (wrap64 (x8 - 1)) then (if (wrap64 (x8 - 1)) < (x3.length : Int) then (if 0 ≤ x8 then (if x8 < (x3.length : Int) then (leatref11_Sort.l2 k x0 (x3.set (x8 : Int).toNat (⟨(rd_T46 x3 (wrap64 (x8 - 1))).f0, (⟨(rd_T46 x3 (wrap64 (x8 - 1))).f1.f0, (rd_T46 x3 (wrap64 (x8 - 1))).f1.f1⟩ : S31), (rd_T46 x3 (wrap64 (x8 - 1))).f2⟩ : S46)) x4 x5 (wrap64 (x8 - 1))) else (none)) else (none)) else (none)) else (none)) else (if 0 ≤ x4 then (if x4 < (x0.length : Int) then (if 0 ≤ x5 then (if x5 < (x3.length : Int) then (leatref11_Sort.l0 k x0 (x3.set (x5 : Int).toNat (⟨(rd_T46 x0 x4).f0, (⟨(rd_T46 x0 x4).f1.f0, (rd_T46 x0 x4).f1.f1⟩ : S31), (rd_T46 x0 x4).f2⟩ : S46)) (wrap64 (x4 + 1))) else (none)) else (none)) else (none)) else (none))
end
def leatref11_Sort.f (k : Nat) (l0 : List (S46)) : Option ((List (S46))) := leatref11_Sort.l0 k l0 ([] : List (S46)) 0
theorem leatref11_Sort.mono_l : ∀ k, (∀ y0 y1 y2, LeO (leatref11_Sort.l0 k y0 y1 y2) (leatref11_Sort.l0 (k + 1) y0 y1 y2)) ∧ (∀ y0 y1 y2 y3 y4, LeO (leatref11_Sort.l1 k y0 y1 y2 y3 y4) (leatref11_Sort.l1 (k + 1) y0 y1 y2 y3 y4)) ∧ (∀ y0 y1 y2 y3 y4, LeO (leatref11_Sort.l2 k y0 y1 y2 y3 y4) (leatref11_Sort.l2 (k + 1) y0 y1 y2 y3 y4))
 | 0 => ⟨fun _ _ _ r h => by simp [leatref11_Sort.l0] at h, fun _ _ _ _ _ r h => by simp [leatref11_Sort.l1] at h, fun _ _ _ _ _ r h => by simp [leatref11_Sort.l2] at h⟩
 | k + 1 => by
  obtain ⟨ih0, ih1, ih2⟩ := leatref11_Sort.mono_l k
  refine ⟨?_, ?_, ?_⟩
  ·intro y0 y1 y2
   unfold leatref11_Sort.l0
   repeat' first
   | (with_reducible exact ih0 _ _ _)
   | (with_reducible exact ih1 _ _ _ _ _)
   | (with_reducible exact ih2 _ _ _ _ _)
   | (with_reducible exact LeO.refl _)
   | (with_reducible exact LeO.none _)
   | (with_reducible refine LeO.ite ?_ ?_)
   | (with_reducible refine LeO.bind ?_ (fun _ => ?_))
   | exact ih0 _ _ _
   | exact ih1 _ _ _ _ _
   | exact ih2 _ _ _ _ _
   | exact LeO.none _
   | refine LeO.ite ?_ ?_
   | refine LeO.bind ?_ (fun _ => ?_)
  ·intro y0 y1 y2 y3 y4
   unfold leatref11_Sort.l1
   repeat' first
   | (with_reducible exact ih0 _ _ _)
   | (with_reducible exact ih1 _ _ _ _ _)
   | (with_reducible exact ih2 _ _ _ _ _)
   | (with_reducible exact LeO.refl _)
   | (with_reducible exact LeO.none _)
   | (with_reducible refine LeO.ite ?_ ?_)
   | (with_reducible refine LeO.bind ?_ (fun _ => ?_))
   | exact ih0 _ _ _
   | exact ih1 _ _ _ _ _
   | exact ih2 _ _ _ _ _
   | exact LeO.none _
   | refine LeO.ite ?_ ?_
   | refine LeO.bind ?_ (fun _ => ?_)
  ·intro y0 y1 y2 y3 y4
   unfold leatref11_Sort.l2
   repeat' first
   | (with_reducible exact ih0 _ _ _)
   | (with_reducible exact ih1 _ _ _ _ _)
   | (with_reducible exact ih2 _ _ _ _ _)
   | (with_reducible exact LeO.refl _)
   | (with_reducible exact LeO.none _)
   | (with_reducible refine LeO.ite ?_ ?_)
   | (with_reducible refine LeO.bind ?_ (fun _ => ?_))
   | exact ih0 _ _ _
   | exact ih1 _ _ _ _ _
   | exact ih2 _ _ _ _ _
   | exact LeO.none _
   | refine LeO.ite ?_ ?_
   | refine LeO.bind ?_ (fun _ => ?_)
theorem leatref11_Sort.mono : ∀ a0 k, LeO (leatref11_Sort.f k a0) (leatref11_Sort.f (k + 1) a0) := by
 intro a0 k
 obtain ⟨ih0, ih1, ih2⟩ := leatref11_Sort.mono_l k
 unfold leatref11_Sort.f
 repeat' first
   | (with_reducible exact ih0 _ _ _)
   | (with_reducible exact ih1 _ _ _ _ _)
   | (with_reducible exact ih2 _ _ _ _ _)
   | (with_reducible exact LeO.refl _)
   | (with_reducible exact LeO.none _)
   | (with_reducible refine LeO.ite ?_ ?_)
   | (with_reducible refine LeO.bind ?_ (fun _ => ?_))
   | exact ih0 _ _ _
   | exact ih1 _ _ _ _ _
   | exact ih2 _ _ _ _ _
   | exact LeO.none _
   | refine LeO.ite ?_ ?_
   | refine LeO.bind ?_ (fun _ => ?_)
def leatref11_Sort.T8 : Bool × List (List Nat × List Nat) := (true, [([], []), ([], []), ([0, 1], [0, 1]), ([2], [2]), ([], []), ([], []), ([4, 5], [4, 5]), ([6], [6]), ([3, 7], [3, 7])])
def leatref11_Sort.B8 : List Nat := [0, 0, 3, 7, 0, 0, 48, 112, 255]
theorem leatref11_Sort.tab8 : rtab .any (opsOf Try.f29 8) = leatref11_Sort.T8 := by kernel_rfl
theorem leatref11_Sort.bits8 : waitsOk leatref11_Sort.T8.2 leatref11_Sort.B8 = true := by kernel_rfl
set_option maxHeartbeats 8000000 in
set_option maxRecDepth 100000 in
theorem leatref11_Sort.calls (k : Nat) (A0 : Option Addr) (c0 : Nat) (l0 : List (S46)) (r : List (S46)) (w : World) (hr0 : Kd.C k46 w A0 l0.length l0) (hc0 : l0.length ≤ c0) (h : leatref11_Sort.f k l0 = some r) :
  Calls Try.prog 29 #[.slice A0 l0.length c0] w fun e w' => ∃ v0_ : Value, e = .returned (v0_) ∧ Kd.R k46 46 w' w.heap.size (fun _ => True) v0_ r ∧ Below w.heap.size w w' := by
 have hu46 := Try.underlying46
 have HR0 := Aside0.mk hr0
 have HC0 := Aside0.mk hc0
 clear hr0 hc0
 have HB := Aside0.mk (Below.refl w.heap.size w)
 have H : (leatref11_Sort.l0 k l0 ([] : List (S46)) 0) = some r := h
 clear h
 have H' := Aside0.mk H
 clear H
 go_enter Try.func29, Try.ntmps29
 go_wp2
 go_loopg [3, 4] k (fun kq v3 v4 w' => ∃ (x3_1 : List (S46)) (x4_1 : Int), v4 = .int .i64 x4_1 ∧ Aside0 (leatref11_Sort.l0 kq l0 x3_1 x4_1 = some r) ∧ Aside0 (kq ≤ k) ∧ Aside0 (Kd.R k46 46 w' w.heap.size (fun _ => True) v3 x3_1) ∧ Aside0 (Below w.heap.size w w'))
 case atStart => exact ⟨(([] : List (S46))), (0), (by first | rfl | (simp; done) | (simp [*]; done)), H', ⟨Nat.le_refl _⟩, ⟨by first | exact Kd.R_nil _ _ _ _ _ | exact Kd.N_nil _ _ _ _ _ | exact Kd.V_nil _ _ _ _ _ | exact Kd.Q_nil _ _ _ _ _ | exact Kd.S_nil _ _ _ _ _⟩, ⟨by repeat (first | (with_reducible first | exact HB.out | apply below_alloc | apply pw_below_drewN | apply below_drew1) | exact HB.out)⟩⟩
 case round =>
  clear H'
  obtain ⟨x3_1, x4_1, rfl, HA, HK1, HO_3, HB⟩ := hrel
  cases gk with
  | zero => exact absurd HA.out (by simp [leatref11_Sort.l0])
  | succ k1 =>
   have H := HA.out
   clear HA
   simp only [leatref11_Sort.l0] at H
   by_cases c2 : x4_1 < (l0.length : Int)
   ·rw [if_pos c2] at H
    have c2b0 : decide (x4_1 < (l0.length : Int)) = true := decide_eq_true c2
    clear c2
    have H' := Aside0.mk H
    clear H
    obtain ⟨Ao3, co3, eo3⟩ := Kd.R_slice HO_3.out
    subst eo3
    go_wp2
    go_loopg [5, 6] k1 (fun kq v5 v6 w' => ∃ (x5_2 : Int) (x6_2 : Int), v5 = .int .i64 x5_2 ∧ v6 = .int .i64 x6_2 ∧ Aside0 (leatref11_Sort.l1 kq l0 x3_1 x4_1 x5_2 x6_2 = some r) ∧ Aside0 (kq ≤ k1) ∧ Aside0 (Kd.R k46 46 w' w.heap.size (fun _ => True) (.slice Ao3 x3_1.length co3) x3_1) ∧ Aside0 (Below w.heap.size w w'))
    case atStart => exact ⟨(0), ((x3_1.length : Int)), (by first | rfl | (simp; done) | (simp [*]; done)), (by first | rfl | (simp; done) | (simp [*]; done)), H', ⟨Nat.le_refl _⟩, ⟨by (with_reducible repeat (first | apply Kd.R_alloc | apply Kd.R_drewN | apply Kd.R_drew)); exact HO_3.out⟩, ⟨by repeat (first | (with_reducible first | exact HB.out | apply below_alloc | apply pw_below_drewN | apply below_drew1) | exact HB.out)⟩⟩
    case round =>
     clear H'
     try clear c2; try clear c2b0; try clear p2
     obtain ⟨x5_2, x6_2, rfl, rfl, HA, HK2, HO_3, HB⟩ := hrel
     cases gk with
     | zero => exact absurd HA.out (by simp [leatref11_Sort.l1])
     | succ k2 =>
      have H := HA.out
      clear HA
      simp only [leatref11_Sort.l1] at H
      by_cases c4 : x5_2 < x6_2
      ·rw [if_pos c4] at H
       have c4b0 : decide (x5_2 < x6_2) = true := decide_eq_true c4
       clear c4
       by_cases c5 : 0 ≤ x4_1
       ·rw [if_pos c5] at H
        have c5b0 : decide (0 ≤ x4_1) = true := decide_eq_true c5
        clear c5
        by_cases c6 : x4_1 < (l0.length : Int)
        ·rw [if_pos c6] at H
         have c6b0 : decide (x4_1 < (l0.length : Int)) = true := decide_eq_true c6
         clear c6
         obtain ⟨ji7, hji7⟩ : ∃ j_ : Int, (wrap64 (Int.tdiv (wrap64 (x5_2 + x6_2)) 2)) = j_ := ⟨_, rfl⟩
         replace H : (if 0 ≤ (ji7) then (if (ji7) < (x3_1.length : Int) then ((leatref11_less.f ((rd_T46 l0 x4_1).f0) ((rd_T46 l0 x4_1).f1.f0) ((rd_T46 l0 x4_1).f1.f1) ((rd_T46 l0 x4_1).f2) ((rd_T46 x3_1 (ji7)).f0) ((rd_T46 x3_1 (ji7)).f1.f0) ((rd_T46 x3_1 (ji7)).f1.f1) ((rd_T46 x3_1 (ji7)).f2)).bind fun t224 => (if t224 = true then (leatref11_Sort.l1 k2 l0 x3_1 x4_1 x5_2 ji7) else (leatref11_Sort.l1 k2 l0 x3_1 x4_1 (wrap64 ((ji7) + 1)) x6_2))) else (none)) else (none)) = some r := by first | (rw [hji7] at H; exact H) | (simp only [hji7] at H ⊢; exact H)
         have hji7w : (IntKind.i64.wrap (Int.tdiv (wrap64 (x5_2 + x6_2)) 2)) = ji7 := (i64_w _).trans hji7
         by_cases c8 : 0 ≤ (ji7)
         ·rw [if_pos c8] at H
          have c8b0 : decide (0 ≤ (ji7)) = true := decide_eq_true c8
          clear c8
          by_cases c9 : (ji7) < (x3_1.length : Int)
          ·rw [if_pos c9] at H
           have c9b0 : decide ((ji7) < (x3_1.length : Int)) = true := decide_eq_true c9
           clear c9
           replace H := Option.bind_eq_some_iff.mp H
           obtain ⟨t224, A100, H⟩ := H
           replace H : (if t224 = true then (leatref11_Sort.l1 k2 l0 x3_1 x4_1 x5_2 ji7) else (leatref11_Sort.l1 k2 l0 x3_1 x4_1 (wrap64 ((ji7) + 1)) x6_2)) = some r := H
           have A10 := Aside0.mk A100
           clear A100
           by_cases c11 : t224 = true
           ·subst c11
            have H1 : (leatref11_Sort.l1 k2 l0 x3_1 x4_1 x5_2 ji7) = some r := by rw [if_pos rfl] at H; exact H
            clear H
            have H := H1
            clear H1
            have H' := Aside0.mk H
            clear H
            try go_wp2
            have n0_ := Aside0.mk (Kd.R_drew HO_3.out)
            have n1_ := Aside0.mk (below_drew1 HB.out)
            clear HO_3
            clear HB
            have HO_3 := n0_
            have HB := n1_
            clear n0_ n1_
            have p222 : 0 ≤ (x4_1 : Int) := of_decide_eq_true (by first | (with_reducible assumption) | assumption)
            have q222 : x4_1 < (l0.length : Int) := of_decide_eq_true (by first | (with_reducible assumption) | assumption)
            obtain ⟨ad222, e222, hx222_0, hx222_1, hx222_2, hx222_3⟩ := at_T46 HR0.out x4_1 p222 q222
            have hw222_3 := hx222_3
            have hw222_2 := hx222_2
            have hw222_1 := hx222_1
            have hw222_0 := hx222_0
            cases e222
            replace hx222_0 := (HB.out.cell (World.block_lt_of_cell? w _ hx222_0)).trans hx222_0
            replace hx222_1 := (HB.out.cell (World.block_lt_of_cell? w _ hx222_1)).trans hx222_1
            replace hx222_2 := (HB.out.cell (World.block_lt_of_cell? w _ hx222_2)).trans hx222_2
            replace hx222_3 := (HB.out.cell (World.block_lt_of_cell? w _ hx222_3)).trans hx222_3
            replace p222 := eq_true p222
            replace q222 := eq_true q222
            have p223 : 0 ≤ ((ji7) : Int) := of_decide_eq_true (by first | (with_reducible assumption) | assumption)
            have q223 : (ji7) < (x3_1.length : Int) := of_decide_eq_true (by first | (with_reducible assumption) | assumption)
            obtain ⟨ad223, e223, hx223_0, hx223_1, hx223_2, hx223_3⟩ := at_T46 (Kd.R_reads' HO_3.out).2.2 (ji7) p223 q223
            cases e223
            replace p223 := eq_true p223
            replace q223 := eq_true q223
            refine start_ (n := 9) (S := fun w' => w'.cell? (ad222.add ((x4_1).toNat * 4)) = some (.int .i64 ((rd_T46 l0 x4_1).f0)) ∧ w'.cell? ⟨(ad222.add ((x4_1).toNat * 4)).block, (ad222.add ((x4_1).toNat * 4)).off + 1, none⟩ = some (.int .i64 ((rd_T46 l0 x4_1).f1.f0)) ∧ w'.cell? ⟨(ad222.add ((x4_1).toNat * 4)).block, (ad222.add ((x4_1).toNat * 4)).off + 2, none⟩ = some (.int .i64 ((rd_T46 l0 x4_1).f1.f1)) ∧ w'.cell? ⟨(ad222.add ((x4_1).toNat * 4)).block, (ad222.add ((x4_1).toNat * 4)).off + 3, none⟩ = some (.int .i64 ((rd_T46 l0 x4_1).f2)) ∧ w'.cell? (ad223.add (((ji7)).toNat * 4)) = some (.int .i64 ((rd_T46 x3_1 (ji7)).f0)) ∧ w'.cell? ⟨(ad223.add (((ji7)).toNat * 4)).block, (ad223.add (((ji7)).toNat * 4)).off + 1, none⟩ = some (.int .i64 ((rd_T46 x3_1 (ji7)).f1.f0)) ∧ w'.cell? ⟨(ad223.add (((ji7)).toNat * 4)).block, (ad223.add (((ji7)).toNat * 4)).off + 2, none⟩ = some (.int .i64 ((rd_T46 x3_1 (ji7)).f1.f1)) ∧ w'.cell? ⟨(ad223.add (((ji7)).toNat * 4)).block, (ad223.add (((ji7)).toNat * 4)).off + 3, none⟩ = some (.int .i64 ((rd_T46 x3_1 (ji7)).f2))) (ds := []) #[false, false, false, false, false, false, false, false, false] (by kernel_rfl) rfl rfl ⟨((HB.out.cell (World.block_lt_of_cell? w _ hw222_0)).trans hw222_0), ((HB.out.cell (World.block_lt_of_cell? w _ hw222_1)).trans hw222_1), ((HB.out.cell (World.block_lt_of_cell? w _ hw222_2)).trans hw222_2), ((HB.out.cell (World.block_lt_of_cell? w _ hw222_3)).trans hw222_3), hx223_0, hx223_1, hx223_2, hx223_3⟩ (fun hHeld => ?_); refine with_tabW leatref11_Sort.tab8 leatref11_Sort.bits8 (fun HT_ HW_ => ?_)
            generalize wr.drew = w12 at HO_3 HB hx222_0 hx222_1 hx222_2 hx222_3 hx223_0 hx223_1 hx223_2 hx223_3 hHeld ⊢
            refine pure_ (i := 0) (N := some 24) (v := ?_) (a' := ?_) #[true, false, false, false, false, false, false, false, false] rfl rfl (any_of HT_.out (by kernel_rfl)) (fun _ _ _ h => h) (Or.inl ⟨by rfl, ?_⟩) ?_ ?_
            rotate_left
            ·intro w'
             go_simp
             with_reducible rfl
            rotate_left
            ·simp only [Act.put, List.setIfInBounds_toArray, List.set_cons_zero, List.set_cons_succ, i64_w, i32_w]
             rfl
            refine pure_ (i := 1) (N := some 25) (v := ?_) (a' := ?_) #[true, true, false, false, false, false, false, false, false] rfl rfl (any_of HT_.out (by kernel_rfl)) (fun _ _ _ h => h) (Or.inl ⟨by rfl, ?_⟩) ?_ ?_
            rotate_left
            ·intro w'
             go_simp
             with_reducible rfl
            rotate_left
            ·simp only [Act.put, List.setIfInBounds_toArray, List.set_cons_zero, List.set_cons_succ, i64_w, i32_w]
             rfl
            refine pure_ (i := 2) (N := some 26) (v := ?_) (a' := ?_) #[true, true, true, false, false, false, false, false, false] rfl rfl (any_of HT_.out (by kernel_rfl)) (fun _ _ _ h => h) (Or.inl ⟨by rfl, ?_⟩) ?_ ?_
            rotate_left
            ·intro w'
             go_simp
             with_reducible rfl
            rotate_left
            ·simp only [Act.put, List.setIfInBounds_toArray, List.set_cons_zero, List.set_cons_succ, i64_w, i32_w]
             rfl
            refine pure_ (i := 4) (N := some 28) (v := ?_) (a' := ?_) #[true, true, true, false, true, false, false, false, false] rfl rfl (any_of HT_.out (by kernel_rfl)) (fun _ _ _ h => h) (Or.inl ⟨by rfl, ?_⟩) ?_ ?_
            rotate_left
            ·intro w'
             go_simp
             with_reducible rfl
            rotate_left
            ·simp only [Act.put, List.setIfInBounds_toArray, List.set_cons_zero, List.set_cons_succ, i64_w, i32_w]
             rfl
            refine pure_ (i := 5) (N := some 29) (v := ?_) (a' := ?_) #[true, true, true, false, true, true, false, false, false] rfl rfl (any_of HT_.out (by kernel_rfl)) (fun _ _ _ h => h) (Or.inl ⟨by rfl, ?_⟩) ?_ ?_
            rotate_left
            ·intro w'
             go_simp
             with_reducible rfl
            rotate_left
            ·simp only [Act.put, List.setIfInBounds_toArray, List.set_cons_zero, List.set_cons_succ, i64_w, i32_w]
             rfl
            refine pure_ (i := 6) (N := some 30) (v := ?_) (a' := ?_) #[true, true, true, false, true, true, true, false, false] rfl rfl (any_of HT_.out (by kernel_rfl)) (fun _ _ _ h => h) (Or.inl ⟨by rfl, ?_⟩) ?_ ?_
            rotate_left
            ·intro w'
             go_simp
             with_reducible rfl
            rotate_left
            ·simp only [Act.put, List.setIfInBounds_toArray, List.set_cons_zero, List.set_cons_succ, i64_w, i32_w]
             rfl
            refine take_ (i := 3) (N := some 27) (v := ?_) (a' := ?_) #[true, true, true, true, true, true, true, false, false] rfl rfl (take_ofW HT_.out HW_.out (by kernel_rfl)) (fun _ _ _ h => h) (Or.inl ⟨by rfl, ?_⟩) hHeld ?_ ?_
            rotate_left
            ·rintro w' ⟨s0, s1, s2, s3, s4, s5, s6, s7⟩
             go_simp
             with_reducible rfl
            rotate_left
            ·simp only [Act.put, List.setIfInBounds_toArray, List.set_cons_zero, List.set_cons_succ, i64_w, i32_w]
             rfl
            refine take_ (i := 7) (N := some 31) (v := ?_) (a' := ?_) #[true, true, true, true, true, true, true, true, false] rfl rfl (take_ofW HT_.out HW_.out (by kernel_rfl)) (fun _ _ _ h => h) (Or.inl ⟨by rfl, ?_⟩) hHeld ?_ ?_
            rotate_left
            ·rintro w' ⟨s0, s1, s2, s3, s4, s5, s6, s7⟩
             go_simp
             with_reducible rfl
            rotate_left
            ·simp only [Act.put, List.setIfInBounds_toArray, List.set_cons_zero, List.set_cons_succ, i64_w, i32_w]
             rfl
            refine one_ (i := 8) (N := some 32) #[true, true, true, true, true, true, true, true, true] rfl rfl (one_of HT_.out (by kernel_rfl)) (by decide) (fun K hK => ?_)
            refine goes_ Try.func44 (by kernel_rfl) rfl #[.agg #[.int .i64 ((rd_T46 l0 x4_1).f0), .int .i64 ((rd_T46 l0 x4_1).f1.f0), .int .i64 ((rd_T46 l0 x4_1).f1.f1), .int .i64 ((rd_T46 l0 x4_1).f2)], .agg #[.int .i64 ((rd_T46 x3_1 (ji7)).f0), .int .i64 ((rd_T46 x3_1 (ji7)).f1.f0), .int .i64 ((rd_T46 x3_1 (ji7)).f1.f1), .int .i64 ((rd_T46 x3_1 (ji7)).f2)]] (by rfl) rfl rfl (by (try simp only [List.map_toArray, List.map_cons, List.map_nil]); first | done | (simp only [hji7]; rfl) | rfl | (simp only [List.length_drop, List.length_take]; rfl)) ?_
            with_reducible refine (leatref11_less.calls ((rd_T46 l0 x4_1).f0) ((rd_T46 l0 x4_1).f1.f0) ((rd_T46 l0 x4_1).f1.f1) ((rd_T46 l0 x4_1).f2) ((rd_T46 x3_1 (ji7)).f0) ((rd_T46 x3_1 (ji7)).f1.f0) ((rd_T46 x3_1 (ji7)).f1.f1) ((rd_T46 x3_1 (ji7)).f2) true _ A10.out).mono ?_
            rintro e w13 ⟨rfl, hb⟩
            have HS4_ := (hb.cell (World.block_lt_of_cell? _ _ (hHeld.2.2.2.2.1))).trans (hHeld.2.2.2.2.1)
            have HS5_ := (hb.cell (World.block_lt_of_cell? _ _ (hHeld.2.2.2.2.2.1))).trans (hHeld.2.2.2.2.2.1)
            have HS6_ := (hb.cell (World.block_lt_of_cell? _ _ (hHeld.2.2.2.2.2.2.1))).trans (hHeld.2.2.2.2.2.2.1)
            have HS7_ := (hb.cell (World.block_lt_of_cell? _ _ (hHeld.2.2.2.2.2.2.2))).trans (hHeld.2.2.2.2.2.2.2)
            refine ⟨_, rfl, ?_⟩
            have n0_ := Aside0.mk (Kd.R_below (by (with_reducible repeat (first | apply Kd.R_alloc | apply Kd.R_drewN | apply Kd.R_drew)); exact HO_3.out) hb)
            have n1_ := Aside0.mk (below_step (by repeat (first | (with_reducible first | exact HB.out | apply below_alloc | apply pw_below_drewN | apply below_drew1) | exact HB.out)) hb)
            clear HO_3
            clear HB
            have HO_3 := n0_
            have HB := n1_
            clear n0_ n1_
            (try clear hb)
            (try clear hb2)
            (try clear hk)
            (try clear hi)
            refine hK.out _ _ ⟨((HB.out.cell (World.block_lt_of_cell? w _ hw222_0)).trans hw222_0), ((HB.out.cell (World.block_lt_of_cell? w _ hw222_1)).trans hw222_1), ((HB.out.cell (World.block_lt_of_cell? w _ hw222_2)).trans hw222_2), ((HB.out.cell (World.block_lt_of_cell? w _ hw222_3)).trans hw222_3), HS4_, HS5_, HS6_, HS7_⟩ (fun hHeld => ?_)
            clear hK K
            refine norm_ (a' := ?_) ?_ ?_
            rotate_left
            ·show Act.put _ (some 32) _ = _
             simp only [Act.put, List.setIfInBounds_toArray, List.set_cons_zero, List.set_cons_succ, i64_w, i32_w]
             rfl
            refine done_ (done_of HT_.out (by kernel_rfl)) ?_
            try go_wp2
            go_roundg k2
            case measure => have := HK1.out; have := HK2.out; omega
            case rel => exact ⟨(x5_2), (ji7), (by first | rfl | (simp; done) | (simp [*]; done)), (by first | rfl | (simp; done) | (simp only [← hji7] <;> (first | rfl | simp)) | (simp [*]; done)), H', ⟨by have := HK1.out; have := HK2.out; omega⟩, ⟨by (with_reducible repeat (first | apply Kd.R_alloc | apply Kd.R_drewN | apply Kd.R_drew)); exact HO_3.out⟩, ⟨by repeat (first | (with_reducible first | exact HB.out | apply below_alloc | apply pw_below_drewN | apply below_drew1) | exact HB.out)⟩⟩
           ·replace c11 := Bool.eq_false_iff.mpr c11
            subst c11
            have H1 : (leatref11_Sort.l1 k2 l0 x3_1 x4_1 (wrap64 ((ji7) + 1)) x6_2) = some r := by rw [if_neg (show ¬ (false = true) by decide)] at H; exact H
            clear H
            have H := H1
            clear H1
            have H' := Aside0.mk H
            clear H
            try go_wp2
            have n0_ := Aside0.mk (Kd.R_drew HO_3.out)
            have n1_ := Aside0.mk (below_drew1 HB.out)
            clear HO_3
            clear HB
            have HO_3 := n0_
            have HB := n1_
            clear n0_ n1_
            have p222 : 0 ≤ (x4_1 : Int) := of_decide_eq_true (by first | (with_reducible assumption) | assumption)
            have q222 : x4_1 < (l0.length : Int) := of_decide_eq_true (by first | (with_reducible assumption) | assumption)
            obtain ⟨ad222, e222, hx222_0, hx222_1, hx222_2, hx222_3⟩ := at_T46 HR0.out x4_1 p222 q222
            have hw222_3 := hx222_3
            have hw222_2 := hx222_2
            have hw222_1 := hx222_1
            have hw222_0 := hx222_0
            cases e222
            replace hx222_0 := (HB.out.cell (World.block_lt_of_cell? w _ hx222_0)).trans hx222_0
            replace hx222_1 := (HB.out.cell (World.block_lt_of_cell? w _ hx222_1)).trans hx222_1
            replace hx222_2 := (HB.out.cell (World.block_lt_of_cell? w _ hx222_2)).trans hx222_2
            replace hx222_3 := (HB.out.cell (World.block_lt_of_cell? w _ hx222_3)).trans hx222_3
            replace p222 := eq_true p222
            replace q222 := eq_true q222
            have p223 : 0 ≤ ((ji7) : Int) := of_decide_eq_true (by first | (with_reducible assumption) | assumption)
            have q223 : (ji7) < (x3_1.length : Int) := of_decide_eq_true (by first | (with_reducible assumption) | assumption)
            obtain ⟨ad223, e223, hx223_0, hx223_1, hx223_2, hx223_3⟩ := at_T46 (Kd.R_reads' HO_3.out).2.2 (ji7) p223 q223
            cases e223
            replace p223 := eq_true p223
            replace q223 := eq_true q223
            refine start_ (n := 9) (S := fun w' => w'.cell? (ad222.add ((x4_1).toNat * 4)) = some (.int .i64 ((rd_T46 l0 x4_1).f0)) ∧ w'.cell? ⟨(ad222.add ((x4_1).toNat * 4)).block, (ad222.add ((x4_1).toNat * 4)).off + 1, none⟩ = some (.int .i64 ((rd_T46 l0 x4_1).f1.f0)) ∧ w'.cell? ⟨(ad222.add ((x4_1).toNat * 4)).block, (ad222.add ((x4_1).toNat * 4)).off + 2, none⟩ = some (.int .i64 ((rd_T46 l0 x4_1).f1.f1)) ∧ w'.cell? ⟨(ad222.add ((x4_1).toNat * 4)).block, (ad222.add ((x4_1).toNat * 4)).off + 3, none⟩ = some (.int .i64 ((rd_T46 l0 x4_1).f2)) ∧ w'.cell? (ad223.add (((ji7)).toNat * 4)) = some (.int .i64 ((rd_T46 x3_1 (ji7)).f0)) ∧ w'.cell? ⟨(ad223.add (((ji7)).toNat * 4)).block, (ad223.add (((ji7)).toNat * 4)).off + 1, none⟩ = some (.int .i64 ((rd_T46 x3_1 (ji7)).f1.f0)) ∧ w'.cell? ⟨(ad223.add (((ji7)).toNat * 4)).block, (ad223.add (((ji7)).toNat * 4)).off + 2, none⟩ = some (.int .i64 ((rd_T46 x3_1 (ji7)).f1.f1)) ∧ w'.cell? ⟨(ad223.add (((ji7)).toNat * 4)).block, (ad223.add (((ji7)).toNat * 4)).off + 3, none⟩ = some (.int .i64 ((rd_T46 x3_1 (ji7)).f2))) (ds := []) #[false, false, false, false, false, false, false, false, false] (by kernel_rfl) rfl rfl ⟨((HB.out.cell (World.block_lt_of_cell? w _ hw222_0)).trans hw222_0), ((HB.out.cell (World.block_lt_of_cell? w _ hw222_1)).trans hw222_1), ((HB.out.cell (World.block_lt_of_cell? w _ hw222_2)).trans hw222_2), ((HB.out.cell (World.block_lt_of_cell? w _ hw222_3)).trans hw222_3), hx223_0, hx223_1, hx223_2, hx223_3⟩ (fun hHeld => ?_); refine with_tabW leatref11_Sort.tab8 leatref11_Sort.bits8 (fun HT_ HW_ => ?_)
            generalize wr.drew = w14 at HO_3 HB hx222_0 hx222_1 hx222_2 hx222_3 hx223_0 hx223_1 hx223_2 hx223_3 hHeld ⊢
            refine pure_ (i := 0) (N := some 24) (v := ?_) (a' := ?_) #[true, false, false, false, false, false, false, false, false] rfl rfl (any_of HT_.out (by kernel_rfl)) (fun _ _ _ h => h) (Or.inl ⟨by rfl, ?_⟩) ?_ ?_
            rotate_left
            ·intro w'
             go_simp
             with_reducible rfl
            rotate_left
            ·simp only [Act.put, List.setIfInBounds_toArray, List.set_cons_zero, List.set_cons_succ, i64_w, i32_w]
             rfl
            refine pure_ (i := 1) (N := some 25) (v := ?_) (a' := ?_) #[true, true, false, false, false, false, false, false, false] rfl rfl (any_of HT_.out (by kernel_rfl)) (fun _ _ _ h => h) (Or.inl ⟨by rfl, ?_⟩) ?_ ?_
            rotate_left
            ·intro w'
             go_simp
             with_reducible rfl
            rotate_left
            ·simp only [Act.put, List.setIfInBounds_toArray, List.set_cons_zero, List.set_cons_succ, i64_w, i32_w]
             rfl
            refine pure_ (i := 2) (N := some 26) (v := ?_) (a' := ?_) #[true, true, true, false, false, false, false, false, false] rfl rfl (any_of HT_.out (by kernel_rfl)) (fun _ _ _ h => h) (Or.inl ⟨by rfl, ?_⟩) ?_ ?_
            rotate_left
            ·intro w'
             go_simp
             with_reducible rfl
            rotate_left
            ·simp only [Act.put, List.setIfInBounds_toArray, List.set_cons_zero, List.set_cons_succ, i64_w, i32_w]
             rfl
            refine pure_ (i := 4) (N := some 28) (v := ?_) (a' := ?_) #[true, true, true, false, true, false, false, false, false] rfl rfl (any_of HT_.out (by kernel_rfl)) (fun _ _ _ h => h) (Or.inl ⟨by rfl, ?_⟩) ?_ ?_
            rotate_left
            ·intro w'
             go_simp
             with_reducible rfl
            rotate_left
            ·simp only [Act.put, List.setIfInBounds_toArray, List.set_cons_zero, List.set_cons_succ, i64_w, i32_w]
             rfl
            refine pure_ (i := 5) (N := some 29) (v := ?_) (a' := ?_) #[true, true, true, false, true, true, false, false, false] rfl rfl (any_of HT_.out (by kernel_rfl)) (fun _ _ _ h => h) (Or.inl ⟨by rfl, ?_⟩) ?_ ?_
            rotate_left
            ·intro w'
             go_simp
             with_reducible rfl
            rotate_left
            ·simp only [Act.put, List.setIfInBounds_toArray, List.set_cons_zero, List.set_cons_succ, i64_w, i32_w]
             rfl
            refine pure_ (i := 6) (N := some 30) (v := ?_) (a' := ?_) #[true, true, true, false, true, true, true, false, false] rfl rfl (any_of HT_.out (by kernel_rfl)) (fun _ _ _ h => h) (Or.inl ⟨by rfl, ?_⟩) ?_ ?_
            rotate_left
            ·intro w'
             go_simp
             with_reducible rfl
            rotate_left
            ·simp only [Act.put, List.setIfInBounds_toArray, List.set_cons_zero, List.set_cons_succ, i64_w, i32_w]
             rfl
            refine take_ (i := 3) (N := some 27) (v := ?_) (a' := ?_) #[true, true, true, true, true, true, true, false, false] rfl rfl (take_ofW HT_.out HW_.out (by kernel_rfl)) (fun _ _ _ h => h) (Or.inl ⟨by rfl, ?_⟩) hHeld ?_ ?_
            rotate_left
            ·rintro w' ⟨s0, s1, s2, s3, s4, s5, s6, s7⟩
             go_simp
             with_reducible rfl
            rotate_left
            ·simp only [Act.put, List.setIfInBounds_toArray, List.set_cons_zero, List.set_cons_succ, i64_w, i32_w]
             rfl
            refine take_ (i := 7) (N := some 31) (v := ?_) (a' := ?_) #[true, true, true, true, true, true, true, true, false] rfl rfl (take_ofW HT_.out HW_.out (by kernel_rfl)) (fun _ _ _ h => h) (Or.inl ⟨by rfl, ?_⟩) hHeld ?_ ?_
            rotate_left
            ·rintro w' ⟨s0, s1, s2, s3, s4, s5, s6, s7⟩
             go_simp
             with_reducible rfl
            rotate_left
            ·simp only [Act.put, List.setIfInBounds_toArray, List.set_cons_zero, List.set_cons_succ, i64_w, i32_w]
             rfl
            refine one_ (i := 8) (N := some 32) #[true, true, true, true, true, true, true, true, true] rfl rfl (one_of HT_.out (by kernel_rfl)) (by decide) (fun K hK => ?_)
            refine goes_ Try.func44 (by kernel_rfl) rfl #[.agg #[.int .i64 ((rd_T46 l0 x4_1).f0), .int .i64 ((rd_T46 l0 x4_1).f1.f0), .int .i64 ((rd_T46 l0 x4_1).f1.f1), .int .i64 ((rd_T46 l0 x4_1).f2)], .agg #[.int .i64 ((rd_T46 x3_1 (ji7)).f0), .int .i64 ((rd_T46 x3_1 (ji7)).f1.f0), .int .i64 ((rd_T46 x3_1 (ji7)).f1.f1), .int .i64 ((rd_T46 x3_1 (ji7)).f2)]] (by rfl) rfl rfl (by (try simp only [List.map_toArray, List.map_cons, List.map_nil]); first | done | (simp only [hji7]; rfl) | rfl | (simp only [List.length_drop, List.length_take]; rfl)) ?_
            with_reducible refine (leatref11_less.calls ((rd_T46 l0 x4_1).f0) ((rd_T46 l0 x4_1).f1.f0) ((rd_T46 l0 x4_1).f1.f1) ((rd_T46 l0 x4_1).f2) ((rd_T46 x3_1 (ji7)).f0) ((rd_T46 x3_1 (ji7)).f1.f0) ((rd_T46 x3_1 (ji7)).f1.f1) ((rd_T46 x3_1 (ji7)).f2) false _ A10.out).mono ?_
            rintro e w15 ⟨rfl, hb⟩
            have HS4_ := (hb.cell (World.block_lt_of_cell? _ _ (hHeld.2.2.2.2.1))).trans (hHeld.2.2.2.2.1)
            have HS5_ := (hb.cell (World.block_lt_of_cell? _ _ (hHeld.2.2.2.2.2.1))).trans (hHeld.2.2.2.2.2.1)
            have HS6_ := (hb.cell (World.block_lt_of_cell? _ _ (hHeld.2.2.2.2.2.2.1))).trans (hHeld.2.2.2.2.2.2.1)
            have HS7_ := (hb.cell (World.block_lt_of_cell? _ _ (hHeld.2.2.2.2.2.2.2))).trans (hHeld.2.2.2.2.2.2.2)
            refine ⟨_, rfl, ?_⟩
            have n0_ := Aside0.mk (Kd.R_below (by (with_reducible repeat (first | apply Kd.R_alloc | apply Kd.R_drewN | apply Kd.R_drew)); exact HO_3.out) hb)
            have n1_ := Aside0.mk (below_step (by repeat (first | (with_reducible first | exact HB.out | apply below_alloc | apply pw_below_drewN | apply below_drew1) | exact HB.out)) hb)
            clear HO_3
            clear HB
            have HO_3 := n0_
            have HB := n1_
            clear n0_ n1_
            (try clear hb)
            (try clear hb2)
            (try clear hk)
            (try clear hi)
            refine hK.out _ _ ⟨((HB.out.cell (World.block_lt_of_cell? w _ hw222_0)).trans hw222_0), ((HB.out.cell (World.block_lt_of_cell? w _ hw222_1)).trans hw222_1), ((HB.out.cell (World.block_lt_of_cell? w _ hw222_2)).trans hw222_2), ((HB.out.cell (World.block_lt_of_cell? w _ hw222_3)).trans hw222_3), HS4_, HS5_, HS6_, HS7_⟩ (fun hHeld => ?_)
            clear hK K
            refine norm_ (a' := ?_) ?_ ?_
            rotate_left
            ·show Act.put _ (some 32) _ = _
             simp only [Act.put, List.setIfInBounds_toArray, List.set_cons_zero, List.set_cons_succ, i64_w, i32_w]
             rfl
            refine done_ (done_of HT_.out (by kernel_rfl)) ?_
            try go_wp2
            go_roundg k2
            case measure => have := HK1.out; have := HK2.out; omega
            case rel => exact ⟨(wrap64 ((ji7) + 1)), (x6_2), (by first | rfl | (simp; done) | (simp only [← hji7] <;> (first | rfl | simp)) | (simp [*]; done)), (by first | rfl | (simp; done) | (simp [*]; done)), H', ⟨by have := HK1.out; have := HK2.out; omega⟩, ⟨by (with_reducible repeat (first | apply Kd.R_alloc | apply Kd.R_drewN | apply Kd.R_drew)); exact HO_3.out⟩, ⟨by repeat (first | (with_reducible first | exact HB.out | apply below_alloc | apply pw_below_drewN | apply below_drew1) | exact HB.out)⟩⟩
          ·rw [if_neg c9] at H
           exact absurd H (by simp)
         ·rw [if_neg c8] at H
          exact absurd H (by simp)
        ·rw [if_neg c6] at H
         exact absurd H (by simp)
       ·rw [if_neg c5] at H
        exact absurd H (by simp)
      ·rw [if_neg c4] at H
       have c4b0 : decide (x5_2 < x6_2) = false := decide_eq_false c4
       clear c4
       by_cases c16 : x3_1.length < 4398046511104
       ·rw [if_pos c16] at H
        have LMc16 := Aside0.mk c16
        clear c16
        obtain ⟨y225, hy225⟩ : ∃ y_ : List (S46), y_ = (x3_1 ++ [(⟨0, (⟨0, 0⟩ : S31), 0⟩ : S46)]) := ⟨_, rfl⟩
        replace H : (leatref11_Sort.l2 k2 l0 y225 x4_1 x5_2 (wrap64 ((y225.length : Int) - 1))) = some r := by first | (rw [hy225]; with_reducible exact H) | (have H2_ := (Option.bind_some _ _).symm.trans H; rw [hy225]; with_reducible exact H2_) | (have H2_ := (Option.bind_some _ _).symm.trans H; with_reducible exact H2_) | with_reducible exact H | (rw [hy225]; exact H) | exact H
        have Ny225 := Aside0.mk hy225
        clear hy225
        have H' := Aside0.mk H
        clear H
        go_wp2_with (first | ((with_reducible refine gate_builtin (b := .append) (xs := #[.tmp 36, .tmp 38]) rfl ?_); at_builtin; refine Kd.R_append k46 (w0 := w) w.heap.size rfl (.tmp 36) (.tmp 38) 35 46 (.agg #[(.int .i64 0), (.int .i64 0), (.int .i64 0), (.int .i64 0)]) 32 rfl Try.underlying35 info46 rfl (by decide) (by omega) (.slice Ao3 x3_1.length co3) x3_1 (⟨0, (⟨0, 0⟩ : S31), 0⟩ : S46) [.int .i64 0, .int .i64 0, .int .i64 0, .int .i64 0] (fun _ => True) (fun _ => False) rfl rfl ?aP (fun _ hk => hk.elim) ?aF ?aO ?aB ?aS ?aL ?_; (case aP => exact k46_mkM _ _ _ (⟨0, (⟨0, 0⟩ : S31), 0⟩ : S46)); (case aB => exact (by repeat (first | (with_reducible first | exact HB.out | apply below_alloc | apply pw_below_drewN | apply below_drew1) | exact HB.out))); (case aF => exact (fun _ _ => trivial)); (case aO => exact (by (with_reducible repeat (first | apply Kd.R_alloc | apply Kd.R_drewN | apply Kd.R_drew)); exact HO_3.out)); (case aS => exact (below_size (by repeat (first | (with_reducible first | exact HB.out | apply below_alloc | apply pw_below_drewN | apply below_drew1) | exact HB.out)))); (case aL => have := LMc16.out; omega); intro v226 w17 ho hb hg hat; rw [← Ny225.out] at ho; have n0_ := Aside0.mk (hb); have n1_ := Aside0.mk (ho); clear HB; clear HO_3; have HB := n0_; have HO227 := n1_; clear n0_ n1_; clear ho hb hg hat; obtain ⟨Ao18, co18, eo18⟩ := Kd.R_slice HO227.out; subst eo18))
        go_loopg [8] k2 (fun kq v8 w' => ∃ (x3_3 : List (S46)) (x8_3 : Int), v8 = .int .i64 x8_3 ∧ Aside0 (leatref11_Sort.l2 kq l0 x3_3 x4_1 x5_2 x8_3 = some r) ∧ Aside0 (kq ≤ k2) ∧ Aside0 (Kd.R k46 46 w' w.heap.size (fun _ => True) (.slice Ao18 y225.length co18) x3_3) ∧ Aside0 (Below w.heap.size w w'))
        case atStart => exact ⟨(y225), (wrap64 ((y225.length : Int) - 1)), (by first | rfl | (simp; done) | (simp [*]; done)), H', ⟨Nat.le_refl _⟩, ⟨by (with_reducible repeat (first | apply Kd.R_alloc | apply Kd.R_drewN | apply Kd.R_drew)); exact HO227.out⟩, ⟨by repeat (first | (with_reducible first | exact HB.out | apply below_alloc | apply pw_below_drewN | apply below_drew1) | exact HB.out)⟩⟩
        case round =>
         clear H'
         try clear c1; try clear c2; try clear c2b0; try clear p2; try clear q2; try clear hx2; try clear c4; try clear c4b0; try clear c5; try clear c5b0; try clear c6; try clear c6b0; try clear p6; try clear c8; try clear c8b0; try clear c9; try clear c9b0; try clear c11; try clear c16; try clear hx222_0; try clear hx222_1; try clear hx222_2; try clear hx222_3; try clear hx223_0; try clear hx223_1; try clear hx223_2; try clear hx223_3; try clear p2; try clear p222; try clear p223; try clear q222; try clear q223
         obtain ⟨x3_3, x8_3, rfl, HA, HK3, HO_3, HB⟩ := hrel
         have hl3_3 := (Kd.R_reads' HO_3.out).1
         rw [hl3_3] at HO_3
         (try simp only [hl3_3])
         cases gk with
         | zero => exact absurd HA.out (by simp [leatref11_Sort.l2])
         | succ k3 =>
          have H := HA.out
          clear HA
          simp only [leatref11_Sort.l2] at H
          by_cases c19 : x8_3 > x5_2
          ·rw [if_pos c19] at H
           have c19b0 : decide (x5_2 < x8_3) = true := decide_eq_true c19
           clear c19
           obtain ⟨ji20, hji20⟩ : ∃ j_ : Int, (wrap64 (x8_3 - 1)) = j_ := ⟨_, rfl⟩
           replace H : (if 0 ≤ (ji20) then (if (ji20) < (x3_3.length : Int) then (if 0 ≤ x8_3 then (if x8_3 < (x3_3.length : Int) then (leatref11_Sort.l2 k3 l0 (x3_3.set (x8_3 : Int).toNat (⟨(rd_T46 x3_3 (ji20)).f0, (⟨(rd_T46 x3_3 (ji20)).f1.f0, (rd_T46 x3_3 (ji20)).f1.f1⟩ : S31), (rd_T46 x3_3 (ji20)).f2⟩ : S46)) x4_1 x5_2 ji20) else (none)) else (none)) else (none)) else (none)) = some r := by first | (rw [hji20] at H; exact H) | (simp only [hji20] at H ⊢; exact H)
           have hji20w : (IntKind.i64.wrap (x8_3 - 1)) = ji20 := (i64_w _).trans hji20
           by_cases c21 : 0 ≤ (ji20)
           ·rw [if_pos c21] at H
            have c21b0 : decide (0 ≤ (ji20)) = true := decide_eq_true c21
            clear c21
            by_cases c22 : (ji20) < (x3_3.length : Int)
            ·rw [if_pos c22] at H
             have c22b0 : decide ((ji20) < (x3_3.length : Int)) = true := decide_eq_true c22
             clear c22
             by_cases c23 : 0 ≤ x8_3
             ·rw [if_pos c23] at H
              have c23b0 : decide (0 ≤ x8_3) = true := decide_eq_true c23
              clear c23
              by_cases c24 : x8_3 < (x3_3.length : Int)
              ·rw [if_pos c24] at H
               have c24b0 : decide (x8_3 < (x3_3.length : Int)) = true := decide_eq_true c24
               clear c24
               obtain ⟨y229, hy229⟩ : ∃ y_ : List (S46), y_ = (x3_3.set (x8_3 : Int).toNat (⟨(rd_T46 x3_3 (ji20)).f0, (⟨(rd_T46 x3_3 (ji20)).f1.f0, (rd_T46 x3_3 (ji20)).f1.f1⟩ : S31), (rd_T46 x3_3 (ji20)).f2⟩ : S46)) := ⟨_, rfl⟩
               replace H : (leatref11_Sort.l2 k3 l0 y229 x4_1 x5_2 ji20) = some r := by first | (rw [hy229]; with_reducible exact H) | (have H2_ := (Option.bind_some _ _).symm.trans H; rw [hy229]; with_reducible exact H2_) | (have H2_ := (Option.bind_some _ _).symm.trans H; with_reducible exact H2_) | with_reducible exact H | (rw [hy229]; exact H) | exact H
               have Ny229 := Aside0.mk hy229
               clear hy229
               have H' := Aside0.mk H
               clear H
               have p228 : 0 ≤ ((ji20) : Int) := of_decide_eq_true (by first | (with_reducible assumption) | assumption)
               have q228 : (ji20) < (x3_3.length : Int) := of_decide_eq_true (by first | (with_reducible assumption) | assumption)
               obtain ⟨ad228, e228, hx228_0, hx228_1, hx228_2, hx228_3⟩ := at_T46 (Kd.R_reads' HO_3.out).2.2 (ji20) p228 q228
               cases e228
               replace p228 := eq_true p228
               replace q228 := eq_true q228
               have p25 : 0 ≤ (x8_3 : Int) := of_decide_eq_true (by first | (with_reducible assumption) | assumption)
               have q25 : (x8_3 : Int) < ((x3_3.length : Int) : Int) := of_decide_eq_true (by first | (with_reducible assumption) | assumption)
               obtain ⟨go25, co25, eo25, gb25, gl25, cl25, HG25⟩ := Kd.R_form HO_3.out (by omega)
               (first | cases eo25 | (injection eo25 with ea_ en_ ec_; (first | subst ea_ | (injection ea_ with ea_; subst ea_)); subst ec_; clear en_))
               have GB25 := Aside0.mk gb25
               have GG25 := Aside0.mk HG25
               clear gb25 gl25 HG25
               (first | simp only [add_plain] at hx228_0 | skip)
               (first | simp only [add_plain] at hx228_1 | skip)
               (first | simp only [add_plain] at hx228_2 | skip)
               (first | simp only [add_plain] at hx228_3 | skip)
               obtain ⟨ce25, hcl25, hM25, hcc25, hfr25⟩ := Kd.R_elem HO_3.out z46 (x8_3 : Int) p25 q25
               obtain rfl := k46_openM hM25
               have hx25_0 : wr.cell? ⟨go25, (x8_3 : Int).toNat * 4, none⟩ = some (.int .i64 ((rd_T46 x3_3 x8_3).f0)) := hcc25 0 _ rfl
               have hx25_1 : wr.cell? ⟨go25, (x8_3 : Int).toNat * 4 + 1, none⟩ = some (.int .i64 ((rd_T46 x3_3 x8_3).f1.f0)) := hcc25 1 _ rfl
               have hx25_2 : wr.cell? ⟨go25, (x8_3 : Int).toNat * 4 + 2, none⟩ = some (.int .i64 ((rd_T46 x3_3 x8_3).f1.f1)) := hcc25 2 _ rfl
               have hx25_3 : wr.cell? ⟨go25, (x8_3 : Int).toNat * 4 + 3, none⟩ = some (.int .i64 ((rd_T46 x3_3 x8_3).f2)) := hcc25 3 _ rfl
               have hf25_0 : wr.frozen? ⟨go25, (x8_3 : Int).toNat * 4, none⟩ = false := hfr25 0
               have hf25_1 : wr.frozen? ⟨go25, (x8_3 : Int).toNat * 4 + 1, none⟩ = false := hfr25 1
               have hf25_2 : wr.frozen? ⟨go25, (x8_3 : Int).toNat * 4 + 2, none⟩ = false := hfr25 2
               have hf25_3 : wr.frozen? ⟨go25, (x8_3 : Int).toNat * 4 + 3, none⟩ = false := hfr25 3
               clear hcl25 hcc25 hfr25 hM25
               replace p25 := eq_true p25
               replace q25 := eq_true q25
               have HX26 := Aside0.mk (show Kd.R k46 46 wr w.heap.size (fun _ => True) (.slice (some ⟨go25, 0, none⟩) x3_3.length co18) x3_3 from (by (with_reducible repeat (first | apply Kd.R_alloc | apply Kd.R_drewN | apply Kd.R_drew)); exact HO_3.out))
               obtain ⟨ce26, hcl26, hM26, hcc26, hfr26⟩ := Kd.R_elem HX26.out z46 (x8_3 : Int) (of_decide_eq_true (by first | (with_reducible assumption) | assumption)) (by have h_ : (x8_3 : Int) < ((x3_3.length : Int) : Int) := of_decide_eq_true (by first | (with_reducible assumption) | assumption); first | exact h_ | (have e_ := (Kd.R_reads' HO_3.out).1; omega) | simpa using h_)
               obtain rfl := k46_openM hM26
               have HP26 := Kd.R_seg HX26.out (x8_3 : Int) (of_decide_eq_true (by first | (with_reducible assumption) | assumption)) (by have h_ : (x8_3 : Int) < ((x3_3.length : Int) : Int) := of_decide_eq_true (by first | (with_reducible assumption) | assumption); first | exact h_ | (have e_ := (Kd.R_reads' HO_3.out).1; omega) | simpa using h_) (seg := [.int .i64 ((rd_T46 x3_3 (ji20)).f0), .int .i64 ((rd_T46 x3_3 (ji20)).f1.f0), .int .i64 ((rd_T46 x3_3 (ji20)).f1.f1), .int .i64 ((rd_T46 x3_3 (ji20)).f2)]) (j := 0) hcl26 hcc26 (show 4 ≤ 4 from by decide) (x' := (⟨(rd_T46 x3_3 (ji20)).f0, (⟨(rd_T46 x3_3 (ji20)).f1.f0, (rd_T46 x3_3 (ji20)).f1.f1⟩ : S31), (rd_T46 x3_3 (ji20)).f2⟩ : S46)) (k46_mkM _ _ _ (⟨(rd_T46 x3_3 (ji20)).f0, (⟨(rd_T46 x3_3 (ji20)).f1.f0, (rd_T46 x3_3 (ji20)).f1.f1⟩ : S31), (rd_T46 x3_3 (ji20)).f2⟩ : S46) ) (fun _ hk => hk)
               have hx26_0 := hcc26 0 _ rfl
               (try simp only [show (k46).sz = 4 from rfl, Nat.mul_one, Nat.add_zero] at hx26_0)
               have hf26_0 := hfr26 0
               (try simp only [show (k46).sz = 4 from rfl, Nat.mul_one, Nat.add_zero] at hf26_0)
               have hx26_1 := hcc26 1 _ rfl
               (try simp only [show (k46).sz = 4 from rfl, Nat.mul_one, Nat.add_zero] at hx26_1)
               have hf26_1 := hfr26 1
               (try simp only [show (k46).sz = 4 from rfl, Nat.mul_one, Nat.add_zero] at hf26_1)
               have hx26_2 := hcc26 2 _ rfl
               (try simp only [show (k46).sz = 4 from rfl, Nat.mul_one, Nat.add_zero] at hx26_2)
               have hf26_2 := hfr26 2
               (try simp only [show (k46).sz = 4 from rfl, Nat.mul_one, Nat.add_zero] at hf26_2)
               have hx26_3 := hcc26 3 _ rfl
               (try simp only [show (k46).sz = 4 from rfl, Nat.mul_one, Nat.add_zero] at hx26_3)
               have hf26_3 := hfr26 3
               (try simp only [show (k46).sz = 4 from rfl, Nat.mul_one, Nat.add_zero] at hf26_3)
               clear hcl26 hcc26 hfr26 hM26
               go_wp2_with (first | ((with_reducible refine gate_store (t := 46) (p := 55) rfl ?_); refine store_event (t := 46) (p := 55) (v := ?vo_w27) (w1 := ((((wr.setCell ⟨go25, (x8_3 : Int).toNat * 4, none⟩ (.int .i64 ((rd_T46 x3_3 (ji20)).f0))).setCell ⟨go25, (x8_3 : Int).toNat * 4 + 1, none⟩ (.int .i64 ((rd_T46 x3_3 (ji20)).f1.f0))).setCell ⟨go25, (x8_3 : Int).toNat * 4 + 2, none⟩ (.int .i64 ((rd_T46 x3_3 (ji20)).f1.f1))).setCell ⟨go25, (x8_3 : Int).toNat * 4 + 3, none⟩ (.int .i64 ((rd_T46 x3_3 (ji20)).f2)))) ?hg ?ho ?hn ?hr ?_; (case ho => rfl); (case hg => rfl); (case hn => rfl); (case hr => first | (go_simp; done) | (go_simp; rfl)); intro w27 hw; have hg : wr.grownBy w27 (some go25) := (by rw [hw]; exact HP26.2); have hp_ : Kd.R k46 46 w27 w.heap.size (fun _ => True) (.slice (some ⟨go25, 0, none⟩) x3_3.length co18) y229 := (by rw [hw, Ny229.out]; exact HP26.1); clear HP26; have n0_ := Aside0.mk (hp_); have n1_ := Aside0.mk ((by rw [hw]; exact below_set (below_set (below_set (below_set (HB.out) GB25.out) GB25.out) GB25.out) GB25.out : Below w.heap.size w w27)); clear HO_3; clear HB; have HO_3 := n0_; have HB := n1_; clear n0_ n1_; clear hg hw hp_))
               (try simp only [← hl3_3])
               go_roundg k3
               case measure => have := HK1.out; have := HK2.out; have := HK3.out; omega
               case rel => exact ⟨(y229), (ji20), (by first | rfl | (simp; done) | (simp only [← hji20] <;> (first | rfl | simp)) | (simp [*]; done)), H', ⟨by have := HK1.out; have := HK2.out; have := HK3.out; omega⟩, ⟨by (try simp only [hl3_3]); (with_reducible repeat (first | apply Kd.R_alloc | apply Kd.R_drewN | apply Kd.R_drew)); exact HO_3.out⟩, ⟨by repeat (first | (with_reducible first | exact HB.out | apply below_alloc | apply pw_below_drewN | apply below_drew1) | exact HB.out)⟩⟩
              ·rw [if_neg c24] at H
               exact absurd H (by simp)
             ·rw [if_neg c23] at H
              exact absurd H (by simp)
            ·rw [if_neg c22] at H
             exact absurd H (by simp)
           ·rw [if_neg c21] at H
            exact absurd H (by simp)
          ·rw [if_neg c19] at H
           have c19b0 : decide (x5_2 < x8_3) = false := decide_eq_false c19
           clear c19
           by_cases c28 : 0 ≤ x4_1
           ·rw [if_pos c28] at H
            have c28b0 : decide (0 ≤ x4_1) = true := decide_eq_true c28
            clear c28
            by_cases c29 : x4_1 < (l0.length : Int)
            ·rw [if_pos c29] at H
             have c29b0 : decide (x4_1 < (l0.length : Int)) = true := decide_eq_true c29
             clear c29
             by_cases c30 : 0 ≤ x5_2
             ·rw [if_pos c30] at H
              have c30b0 : decide (0 ≤ x5_2) = true := decide_eq_true c30
              clear c30
              by_cases c31 : x5_2 < (x3_3.length : Int)
              ·rw [if_pos c31] at H
               have c31b0 : decide (x5_2 < (x3_3.length : Int)) = true := decide_eq_true c31
               clear c31
               obtain ⟨y231, hy231⟩ : ∃ y_ : List (S46), y_ = (x3_3.set (x5_2 : Int).toNat (⟨(rd_T46 l0 x4_1).f0, (⟨(rd_T46 l0 x4_1).f1.f0, (rd_T46 l0 x4_1).f1.f1⟩ : S31), (rd_T46 l0 x4_1).f2⟩ : S46)) := ⟨_, rfl⟩
               replace H : (leatref11_Sort.l0 k3 l0 y231 (wrap64 (x4_1 + 1))) = some r := by first | (rw [hy231]; with_reducible exact H) | (have H2_ := (Option.bind_some _ _).symm.trans H; rw [hy231]; with_reducible exact H2_) | (have H2_ := (Option.bind_some _ _).symm.trans H; with_reducible exact H2_) | with_reducible exact H | (rw [hy231]; exact H) | exact H
               have Ny231 := Aside0.mk hy231
               clear hy231
               have H' := Aside0.mk H
               clear H
               have p230 : 0 ≤ (x4_1 : Int) := of_decide_eq_true (by first | (with_reducible assumption) | assumption)
               have q230 : x4_1 < (l0.length : Int) := of_decide_eq_true (by first | (with_reducible assumption) | assumption)
               obtain ⟨ad230, e230, hx230_0, hx230_1, hx230_2, hx230_3⟩ := at_T46 HR0.out x4_1 p230 q230
               cases e230
               replace hx230_0 := (HB.out.cell (World.block_lt_of_cell? w _ hx230_0)).trans hx230_0
               replace hx230_1 := (HB.out.cell (World.block_lt_of_cell? w _ hx230_1)).trans hx230_1
               replace hx230_2 := (HB.out.cell (World.block_lt_of_cell? w _ hx230_2)).trans hx230_2
               replace hx230_3 := (HB.out.cell (World.block_lt_of_cell? w _ hx230_3)).trans hx230_3
               replace p230 := eq_true p230
               replace q230 := eq_true q230
               have p32 : 0 ≤ (x5_2 : Int) := of_decide_eq_true (by first | (with_reducible assumption) | assumption)
               have q32 : (x5_2 : Int) < ((x3_3.length : Int) : Int) := of_decide_eq_true (by first | (with_reducible assumption) | assumption)
               obtain ⟨go32, co32, eo32, gb32, gl32, cl32, HG32⟩ := Kd.R_form HO_3.out (by omega)
               (first | cases eo32 | (injection eo32 with ea_ en_ ec_; (first | subst ea_ | (injection ea_ with ea_; subst ea_)); subst ec_; clear en_))
               have GB32 := Aside0.mk gb32
               have GG32 := Aside0.mk HG32
               clear gb32 gl32 HG32
               obtain ⟨ce32, hcl32, hM32, hcc32, hfr32⟩ := Kd.R_elem HO_3.out z46 (x5_2 : Int) p32 q32
               obtain rfl := k46_openM hM32
               have hx32_0 : wr.cell? ⟨go32, (x5_2 : Int).toNat * 4, none⟩ = some (.int .i64 ((rd_T46 x3_3 x5_2).f0)) := hcc32 0 _ rfl
               have hx32_1 : wr.cell? ⟨go32, (x5_2 : Int).toNat * 4 + 1, none⟩ = some (.int .i64 ((rd_T46 x3_3 x5_2).f1.f0)) := hcc32 1 _ rfl
               have hx32_2 : wr.cell? ⟨go32, (x5_2 : Int).toNat * 4 + 2, none⟩ = some (.int .i64 ((rd_T46 x3_3 x5_2).f1.f1)) := hcc32 2 _ rfl
               have hx32_3 : wr.cell? ⟨go32, (x5_2 : Int).toNat * 4 + 3, none⟩ = some (.int .i64 ((rd_T46 x3_3 x5_2).f2)) := hcc32 3 _ rfl
               have hf32_0 : wr.frozen? ⟨go32, (x5_2 : Int).toNat * 4, none⟩ = false := hfr32 0
               have hf32_1 : wr.frozen? ⟨go32, (x5_2 : Int).toNat * 4 + 1, none⟩ = false := hfr32 1
               have hf32_2 : wr.frozen? ⟨go32, (x5_2 : Int).toNat * 4 + 2, none⟩ = false := hfr32 2
               have hf32_3 : wr.frozen? ⟨go32, (x5_2 : Int).toNat * 4 + 3, none⟩ = false := hfr32 3
               clear hcl32 hcc32 hfr32 hM32
               replace p32 := eq_true p32
               replace q32 := eq_true q32
               have HX33 := Aside0.mk (show Kd.R k46 46 wr w.heap.size (fun _ => True) (.slice (some ⟨go32, 0, none⟩) x3_3.length co18) x3_3 from (by (with_reducible repeat (first | apply Kd.R_alloc | apply Kd.R_drewN | apply Kd.R_drew)); exact HO_3.out))
               obtain ⟨ce33, hcl33, hM33, hcc33, hfr33⟩ := Kd.R_elem HX33.out z46 (x5_2 : Int) (of_decide_eq_true (by first | (with_reducible assumption) | assumption)) (by have h_ : (x5_2 : Int) < ((x3_3.length : Int) : Int) := of_decide_eq_true (by first | (with_reducible assumption) | assumption); first | exact h_ | (have e_ := (Kd.R_reads' HO_3.out).1; omega) | simpa using h_)
               obtain rfl := k46_openM hM33
               have HP33 := Kd.R_seg HX33.out (x5_2 : Int) (of_decide_eq_true (by first | (with_reducible assumption) | assumption)) (by have h_ : (x5_2 : Int) < ((x3_3.length : Int) : Int) := of_decide_eq_true (by first | (with_reducible assumption) | assumption); first | exact h_ | (have e_ := (Kd.R_reads' HO_3.out).1; omega) | simpa using h_) (seg := [.int .i64 ((rd_T46 l0 x4_1).f0), .int .i64 ((rd_T46 l0 x4_1).f1.f0), .int .i64 ((rd_T46 l0 x4_1).f1.f1), .int .i64 ((rd_T46 l0 x4_1).f2)]) (j := 0) hcl33 hcc33 (show 4 ≤ 4 from by decide) (x' := (⟨(rd_T46 l0 x4_1).f0, (⟨(rd_T46 l0 x4_1).f1.f0, (rd_T46 l0 x4_1).f1.f1⟩ : S31), (rd_T46 l0 x4_1).f2⟩ : S46)) (k46_mkM _ _ _ (⟨(rd_T46 l0 x4_1).f0, (⟨(rd_T46 l0 x4_1).f1.f0, (rd_T46 l0 x4_1).f1.f1⟩ : S31), (rd_T46 l0 x4_1).f2⟩ : S46) ) (fun _ hk => hk)
               have hx33_0 := hcc33 0 _ rfl
               (try simp only [show (k46).sz = 4 from rfl, Nat.mul_one, Nat.add_zero] at hx33_0)
               have hf33_0 := hfr33 0
               (try simp only [show (k46).sz = 4 from rfl, Nat.mul_one, Nat.add_zero] at hf33_0)
               have hx33_1 := hcc33 1 _ rfl
               (try simp only [show (k46).sz = 4 from rfl, Nat.mul_one, Nat.add_zero] at hx33_1)
               have hf33_1 := hfr33 1
               (try simp only [show (k46).sz = 4 from rfl, Nat.mul_one, Nat.add_zero] at hf33_1)
               have hx33_2 := hcc33 2 _ rfl
               (try simp only [show (k46).sz = 4 from rfl, Nat.mul_one, Nat.add_zero] at hx33_2)
               have hf33_2 := hfr33 2
               (try simp only [show (k46).sz = 4 from rfl, Nat.mul_one, Nat.add_zero] at hf33_2)
               have hx33_3 := hcc33 3 _ rfl
               (try simp only [show (k46).sz = 4 from rfl, Nat.mul_one, Nat.add_zero] at hx33_3)
               have hf33_3 := hfr33 3
               (try simp only [show (k46).sz = 4 from rfl, Nat.mul_one, Nat.add_zero] at hf33_3)
               clear hcl33 hcc33 hfr33 hM33
               go_wp2_with (first | ((with_reducible refine gate_store (t := 46) (p := 62) rfl ?_); refine store_event (t := 46) (p := 62) (v := ?vo_w34) (w1 := ((((wr.setCell ⟨go32, (x5_2 : Int).toNat * 4, none⟩ (.int .i64 ((rd_T46 l0 x4_1).f0))).setCell ⟨go32, (x5_2 : Int).toNat * 4 + 1, none⟩ (.int .i64 ((rd_T46 l0 x4_1).f1.f0))).setCell ⟨go32, (x5_2 : Int).toNat * 4 + 2, none⟩ (.int .i64 ((rd_T46 l0 x4_1).f1.f1))).setCell ⟨go32, (x5_2 : Int).toNat * 4 + 3, none⟩ (.int .i64 ((rd_T46 l0 x4_1).f2)))) ?hg ?ho ?hn ?hr ?_; (case ho => rfl); (case hg => rfl); (case hn => rfl); (case hr => first | (go_simp; done) | (go_simp; rfl)); intro w34 hw; have hg : wr.grownBy w34 (some go32) := (by rw [hw]; exact HP33.2); have hp_ : Kd.R k46 46 w34 w.heap.size (fun _ => True) (.slice (some ⟨go32, 0, none⟩) x3_3.length co18) y231 := (by rw [hw, Ny231.out]; exact HP33.1); clear HP33; have n0_ := Aside0.mk (hp_); have n1_ := Aside0.mk ((by rw [hw]; exact below_set (below_set (below_set (below_set (HB.out) GB32.out) GB32.out) GB32.out) GB32.out : Below w.heap.size w w34)); clear HO_3; clear HB; have HO_3 := n0_; have HB := n1_; clear n0_ n1_; clear hg hw hp_))
               (try simp only [← hl3_3])
               go_roundg k3
               case measure => have := HK1.out; have := HK2.out; have := HK3.out; omega
               case rel => exact ⟨(y231), (wrap64 (x4_1 + 1)), (by first | rfl | (simp; done) | (simp [*]; done)), H', ⟨by have := HK1.out; have := HK2.out; have := HK3.out; omega⟩, ⟨by (try simp only [hl3_3]); (with_reducible repeat (first | apply Kd.R_alloc | apply Kd.R_drewN | apply Kd.R_drew)); exact HO_3.out⟩, ⟨by repeat (first | (with_reducible first | exact HB.out | apply below_alloc | apply pw_below_drewN | apply below_drew1) | exact HB.out)⟩⟩
              ·rw [if_neg c31] at H
               exact absurd H (by simp)
             ·rw [if_neg c30] at H
              exact absurd H (by simp)
            ·rw [if_neg c29] at H
             exact absurd H (by simp)
           ·rw [if_neg c28] at H
            exact absurd H (by simp)
       ·rw [if_neg c16] at H
        exact absurd H (by simp)
   ·rw [if_neg c2] at H
    have c2b0 : decide (x4_1 < (l0.length : Int)) = false := decide_eq_false c2
    clear c2
    obtain rfl := Option.some.inj H
    go_wp2
    go_ret
    exact ⟨_, by first | rfl | (simp [errW_none, errW_some] <;> rfl) | (simp [*, errW_none, errW_some] <;> rfl), by (with_reducible repeat (first | apply Kd.R_alloc | apply Kd.R_drewN | apply Kd.R_drew)); exact HO_3.out, by repeat (first | (with_reducible first | exact HB.out | apply below_alloc | apply pw_below_drewN | apply below_drew1) | exact HB.out)⟩
end Go.Proofs.Ytdinbnbogdadgaa.X
