/- Proofs towards the law JobOrder, joined into one text. No conditions beyond those typed. -/
import Derived.Test.YtpbmfdbfimcpjaaMJobOrder0
import Derived.Test.YtpbmfdbfimcpjaaMJobOrder4
-- written by wip/myprint.py out of the translation
namespace Go.Proofs.Ytpbmfdbfimcpjaa.X
open Go.RowKit Go.Proofs.YtpbmfdbfimcpjaaW.PrintWords Go.Proofs.YtpbmfdbfimcpjaaW.PrintLast Go.Proofs.YtpbmfdbfimcpjaaW.PrintMore
attribute [local go_sem] max2_int min2_int max_two min_two max_three min_three max_four min_four   -- for this text's walks alone
set_option linter.unusedVariables false
set_option linter.unusedSimpArgs false

/-! ### job_weights: function 20 -/
mutual
def job_weights.l0 : Nat → List Int → List Int → Int → Int → List (S38) → Option (List Int)
  | 0, _, _, _, _, _ => none
  | k + 1, x3, x15, x16, x17, x135000 => if x17 < x16 then (if 0 ≤ x17 then (if x17 < (x15.length : Int) then (if 0 ≤ (rd x15 x17) then (if (rd x15 x17) < (x135000.length : Int) then (job_weights.l1 k x3 (rd x15 x17) 0 x15 x16 x17 ((rd_T38 x135000 (rd x15 x17)).f1) (((rd_T38 x135000 (rd x15 x17)).f1).length : Int) 0 x135000 ((rd_T38 x135000 (rd x15 x17)).f0) ((rd_T38 x135000 (rd x15 x17)).f1) ((rd_T38 x135000 (rd x15 x17)).f2) ((rd_T38 x135000 (rd x15 x17)).f3.f0) ((rd_T38 x135000 (rd x15 x17)).f3.f1) ((rd_T38 x135000 (rd x15 x17)).f3.f2) ((rd_T38 x135000 (rd x15 x17)).f4) ((rd_T38 x135000 (rd x15 x17)).f5.f0) ((rd_T38 x135000 (rd x15 x17)).f5.f1) ((rd_T38 x135000 (rd x15 x17)).f5.f2)) else (none)) else (none)) else (none)) else (none)) else (some x3)
def job_weights.l1 : Nat → List Int → Int → Int → List Int → Int → Int → List Int → Int → Int → List (S38) → Int → List Int → Int → Int → Int → List (S34) → Int → Int → Int → Int → Option (List Int)
  | 0, _, _, _, _, _, _, _, _, _, _, _, _, _, _, _, _, _, _, _, _ => none
  | k + 1, x3, x5, x7, x15, x16, x17, x27, x28, x29, x135000, x144000, x144001, x144002, x144003, x144004, x144005, x144006, x144007, x144008, x144009 => if x29 < x28 then (if 0 ≤ x29 then (if x29 < (x27.length : Int) then (if 0 ≤ (rd x27 x29) then (if (rd x27 x29) < (x3.length : Int) then (job_weights.l1 k x3 x5 (wrap64 (x7 + (rd x3 (rd x27 x29)))) x15 x16 x17 x27 x28 (wrap64 (x29 + 1)) x135000 x144000 x144001 x144002 x144003 x144004 x144005 x144006 x144007 x144008 x144009) else (none)) else (none)) else (none)) else (none)) else (if x144000 = 1 then (if 0 ≤ x5 then (if x5 < (x3.length : Int) then (job_weights.l0 k (x3.set (x5 : Int).toNat 1) x15 x16 (wrap64 (x17 + 1)) x135000) else (none)) else (none)) else (if x144000 = 7 then (if x144007 = 2 then (if x144009 = 0 then (none) else (if 0 ≤ x5 then (if x5 < (x3.length : Int) then (job_weights.l0 k (x3.set (x5 : Int).toNat (mn (wrap64 (x7 * (wrap64 (Int.tdiv (wrap64 ((wrap64 (x144008 + x144009)) - 1)) x144009)))) 65)) x15 x16 (wrap64 (x17 + 1)) x135000) else (none)) else (none))) else (if 0 ≤ x5 then (if x5 < (x3.length : Int) then (job_weights.l0 k (x3.set (x5 : Int).toNat (mn x7 65)) x15 x16 (wrap64 (x17 + 1)) x135000) else (none)) else (none))) else (if 0 ≤ x5 then (if x5 < (x3.length : Int) then (job_weights.l0 k (x3.set (x5 : Int).toNat (mn x7 65)) x15 x16 (wrap64 (x17 + 1)) x135000) else (none)) else (none))))
end
def job_weights.f (k : Nat) (l0_0 : List (S38)) : Option (List Int) := if 0 ≤ (l0_0.length : Int) then (if ((l0_0.length : Int) : Int).toNat ≤ 35184372088832 then ((job_Order.f l0_0).bind fun t138 => (job_weights.l0 k (List.replicate ((l0_0.length : Int) : Int).toNat 0) t138 (t138.length : Int) 0 l0_0)) else (none)) else (none)
theorem job_weights.mono_l : ∀ k, (∀ y0 y1 y2 y3 y4, LeO (job_weights.l0 k y0 y1 y2 y3 y4) (job_weights.l0 (k + 1) y0 y1 y2 y3 y4)) ∧ (∀ y0 y1 y2 y3 y4 y5 y6 y7 y8 y9 y10 y11 y12 y13 y14 y15 y16 y17 y18 y19, LeO (job_weights.l1 k y0 y1 y2 y3 y4 y5 y6 y7 y8 y9 y10 y11 y12 y13 y14 y15 y16 y17 y18 y19) (job_weights.l1 (k + 1) y0 y1 y2 y3 y4 y5 y6 y7 y8 y9 y10 y11 y12 y13 y14 y15 y16 y17 y18 y19))
  | 0 => ⟨fun _ _ _ _ _ r h => by simp [job_weights.l0] at h, fun _ _ _ _ _ _ _ _ _ _ _ _ _ _ _ _ _ _ _ _ r h => by simp [job_weights.l1] at h⟩
  | k + 1 => by
    obtain ⟨ih0, ih1⟩ := job_weights.mono_l k
    refine ⟨?_, ?_⟩
    · intro y0 y1 y2 y3 y4
      unfold job_weights.l0
      repeat' first
      | (with_reducible exact ih0 _ _ _ _ _)
      | (with_reducible exact ih1 _ _ _ _ _ _ _ _ _ _ _ _ _ _ _ _ _ _ _ _)
      | (with_reducible exact LeO.refl _)
      | (with_reducible exact LeO.none _)
      | (with_reducible refine LeO.ite ?_ ?_)
      | (with_reducible refine LeO.bind ?_ (fun _ => ?_))
      | exact ih0 _ _ _ _ _
      | exact ih1 _ _ _ _ _ _ _ _ _ _ _ _ _ _ _ _ _ _ _ _
      | exact LeO.none _
      | refine LeO.ite ?_ ?_
      | refine LeO.bind ?_ (fun _ => ?_)
    · intro y0 y1 y2 y3 y4 y5 y6 y7 y8 y9 y10 y11 y12 y13 y14 y15 y16 y17 y18 y19
      unfold job_weights.l1
      repeat' first
      | (with_reducible exact ih0 _ _ _ _ _)
      | (with_reducible exact ih1 _ _ _ _ _ _ _ _ _ _ _ _ _ _ _ _ _ _ _ _)
      | (with_reducible exact LeO.refl _)
      | (with_reducible exact LeO.none _)
      | (with_reducible refine LeO.ite ?_ ?_)
      | (with_reducible refine LeO.bind ?_ (fun _ => ?_))
      | exact ih0 _ _ _ _ _
      | exact ih1 _ _ _ _ _ _ _ _ _ _ _ _ _ _ _ _ _ _ _ _
      | exact LeO.none _
      | refine LeO.ite ?_ ?_
      | refine LeO.bind ?_ (fun _ => ?_)
theorem job_weights.mono : ∀ a0 k, LeO (job_weights.f k a0) (job_weights.f (k + 1) a0) := by
  intro a0 k
  obtain ⟨ih0, ih1⟩ := job_weights.mono_l k
  unfold job_weights.f
  repeat' first
      | (with_reducible exact ih0 _ _ _ _ _)
      | (with_reducible exact ih1 _ _ _ _ _ _ _ _ _ _ _ _ _ _ _ _ _ _ _ _)
      | (with_reducible exact LeO.refl _)
      | (with_reducible exact LeO.none _)
      | (with_reducible refine LeO.ite ?_ ?_)
      | (with_reducible refine LeO.bind ?_ (fun _ => ?_))
      | exact ih0 _ _ _ _ _
      | exact ih1 _ _ _ _ _ _ _ _ _ _ _ _ _ _ _ _ _ _ _ _
      | exact LeO.none _
      | refine LeO.ite ?_ ?_
      | refine LeO.bind ?_ (fun _ => ?_)
set_option maxHeartbeats 8000000 in
set_option maxRecDepth 100000 in
theorem job_weights.calls (k : Nat) (A0_0 : Option Addr) (c0_0 : Nat) (l0_0 : List (S38)) (r : List Int) (w : World) (hr0_0 : Kd.C k38 w A0_0 l0_0.length l0_0) (hc0_0 : l0_0.length ≤ c0_0) (h : job_weights.f k l0_0 = some r) :
    Calls Try.prog 20 #[.agg #[.slice A0_0 l0_0.length c0_0]] w fun e w' => ∃ v0_ : Value, e = .returned (v0_) ∧ Kd.R (Kd.int .i64) 3 w' w.heap.size (fun _ => True) v0_ r ∧ Below w.heap.size w w' := by
  have hu24 := Try.underlying24
  have hu38 := Try.underlying38
  have HR0_0 := Aside0.mk hr0_0
  have HC0_0 := Aside0.mk hc0_0
  clear hr0_0 hc0_0
  have HB := Aside0.mk (Below.refl w.heap.size w)
  have H : (if 0 ≤ (l0_0.length : Int) then (if ((l0_0.length : Int) : Int).toNat ≤ 35184372088832 then ((job_Order.f l0_0).bind fun t138 => (job_weights.l0 k (List.replicate ((l0_0.length : Int) : Int).toNat 0) t138 (t138.length : Int) 0 l0_0)) else (none)) else (none)) = some r := h
  clear h
  by_cases c2 : 0 ≤ (l0_0.length : Int)
  · rw [if_pos c2] at H
    have c2b0 := eq_true c2
    have c2b1 : decide (0 ≤ (l0_0.length : Int)) = true := decide_eq_true c2
    clear c2
    by_cases c3 : ((l0_0.length : Int) : Int).toNat ≤ 35184372088832
    · rw [if_pos c3] at H
      have c3b0 := eq_true c3
      have c3b1 : decide (((l0_0.length : Int) : Int).toNat ≤ 35184372088832) = true := decide_eq_true c3
      clear c3
      obtain ⟨y135, hy135⟩ : ∃ y_ : List Int, y_ = (List.replicate ((l0_0.length : Int) : Int).toNat 0) := ⟨_, rfl⟩
      replace H : ((job_Order.f l0_0).bind fun t138 => (job_weights.l0 k y135 t138 (t138.length : Int) 0 l0_0)) = some r := by first | (rw [hy135]; with_reducible exact H) | (have H2_ := (Option.bind_some _ _).symm.trans H; rw [hy135]; with_reducible exact H2_) | (have H2_ := (Option.bind_some _ _).symm.trans H; with_reducible exact H2_) | with_reducible exact H | (rw [hy135]; exact H) | exact H
      have Ny135 := Aside0.mk hy135
      clear hy135
      replace H := Option.bind_eq_some_iff.mp H
      obtain ⟨t138, A40, H⟩ := H
      replace H : (job_weights.l0 k y135 t138 (t138.length : Int) 0 l0_0) = some r := H
      have A4 := Aside0.mk A40
      clear A40
      have H' := Aside0.mk H
      clear H
      go_enter Try.func20, Try.ntmps20
      go_wp2_with (first | ((with_reducible refine gate_dst (N := 1) rfl ?_); refine box_event ?hg (N := 1) ?hd (cs := #[.slice A0_0 l0_0.length c0_0]) (t := 24) ?hr ?_; (case hd => rfl); (case hg => rfl); (case hr => first | (go_simp; done) | (go_simp; rfl)); intro gb134 hg w5 hbox hb; have n0_ := Aside0.mk (below_step (by repeat (first | (with_reducible first | exact HB.out | apply below_alloc | apply pw_below_drewN | apply below_drew1) | exact HB.out)) hb); have n1_ := Aside0.mk (hbox); have n2_ := Aside0.mk ((by rw [hg]; exact (below_size (by repeat (first | (with_reducible first | exact HB.out | apply below_alloc | apply pw_below_drewN | apply below_drew1) | exact HB.out))) : w.heap.size ≤ gb134)); have n3_ := Aside0.mk ((by rw [hg]; exact (below_size (by repeat (first | (with_reducible first | exact HB.out | apply below_alloc | apply pw_below_drewN | apply below_drew1) | exact HB.out))) : w.heap.size ≤ gb134)); clear HB; have HB := n0_; have BK134 := n1_; have GW134 := n2_; have GE134 := n3_; clear n0_ n1_ n2_ n3_; clear hb hbox hg; have hcz6_0 : w5.cell? ⟨gb134, 0, none⟩ = some (.slice A0_0 l0_0.length c0_0) := (blk_cell BK134.out 0).trans rfl; have hfz6_0 := blk_frozen BK134.out 0) | ((with_reducible refine gate_dst (N := 13) rfl ?_); refine Kd.R_make (Kd.int .i64) _ 3 rfl (N := 13) rfl 30 _ _ rfl (l0_0.length : Int) rfl rfl Try.underlying30 (.int .i64 0) 8 info3 rfl (by decide) (by omega) 0 (ok := fun _ => True) (okp := fun _ => True) rfl (fun _ hk => hk) trivial (of_decide_eq_true (by first | (with_reducible assumption) | assumption)) (Nat.le_trans (Nat.mul_le_mul_right _ (of_decide_eq_true (by first | (with_reducible assumption) | assumption) : (l0_0.length : Int).toNat ≤ 35184372088832)) (by omega)) (Below.refl _ _) (Nat.le_refl _) ?_; intro v136 w7 ho8 hb hg_ hnew_; clear hg_ hnew_; (first | rw [← Ny135.out] at ho8 | (simp only [Int.reduceToNat] at ho8; rw [← Ny135.out] at ho8)); have n0_ := Aside0.mk (Kd.R_lower ho8 (below_size (by repeat (first | (with_reducible first | exact HB.out | apply below_alloc | apply pw_below_drewN | apply below_drew1 | refine below_set ?_ GE134.out) | exact HB.out)))); have n1_ := Aside0.mk (blk_below (g := gb134) (o := .cells #[.slice A0_0 l0_0.length c0_0] 24 (0, 0)) (by (with_reducible repeat (first | refine blk_drewN ?_ _ | refine blk_drew ?_ | refine blk_alloc ?_ _)); exact BK134.out) hb); have n2_ := Aside0.mk (below_step (by repeat (first | (with_reducible first | exact HB.out | apply below_alloc | apply pw_below_drewN | apply below_drew1 | refine below_set ?_ GE134.out) | exact HB.out)) hb); clear BK134; clear HB; have HO137 := n0_; have BK134 := n1_; have HB := n2_; clear n0_ n1_ n2_; clear hb ho8; have hcz9_0 : w7.cell? ⟨gb134, 0, none⟩ = some (.slice A0_0 l0_0.length c0_0) := (blk_cell BK134.out 0).trans rfl; have hfz9_0 := blk_frozen BK134.out 0) | ((with_reducible refine gate_callee (f := 9) rfl ?_); refine goesL_ (some 15) rfl rfl Try.func9 (by kernel_rfl) rfl #[.agg #[.slice A0_0 l0_0.length c0_0]] rfl (by (try simp only [List.map_toArray, List.map_cons, List.map_nil]); first | done | rfl | (simp only [List.length_drop, List.length_take]; rfl)) ?_; (with_reducible refine (job_Order.calls _ _ l0_0 t138 _ ?side1 ?side2 A4.out).mono ?_); (case side1 => repeat (first | exact (Kd.C_below HR0_0.out HB.out) | (with_reducible refine Kd.C_alloc ?_ _) | (with_reducible refine Kd.C_drewN ?_ _) | (with_reducible refine Kd.C_drew ?_))); (case side2 => exact HC0_0.out); rintro e w10 ⟨v139, rfl, ho0, hb⟩; refine ⟨_, rfl, ?_⟩; have n0_ := Aside0.mk (Kd.R_elder' (by (with_reducible repeat (first | apply Kd.R_alloc | apply Kd.R_drewN | apply Kd.R_drew)); exact HO137.out) (Kd.R_base ho0) hb); have n1_ := Aside0.mk (Kd.R_lower (Kd.R_new' ho0 (Kd.R_lt (by (with_reducible repeat (first | apply Kd.R_alloc | apply Kd.R_drewN | apply Kd.R_drew)); exact HO137.out))) (below_size (by repeat (first | (with_reducible first | exact HB.out | apply below_alloc | apply pw_below_drewN | apply below_drew1 | refine below_set ?_ GE134.out) | exact HB.out)))); have n2_ := Aside0.mk (blk_below (g := gb134) (o := .cells #[.slice A0_0 l0_0.length c0_0] 24 (0, 0)) (by (with_reducible repeat (first | refine blk_drewN ?_ _ | refine blk_drew ?_ | refine blk_alloc ?_ _)); exact BK134.out) hb); have n3_ := Aside0.mk (below_step (by repeat (first | (with_reducible first | exact HB.out | apply below_alloc | apply pw_below_drewN | apply below_drew1 | refine below_set ?_ GE134.out) | exact HB.out)) hb); clear HO137; clear BK134; clear HB; have HO137 := n0_; have HO140 := n1_; have BK134 := n2_; have HB := n3_; clear n0_ n1_ n2_ n3_; (try clear hb); (try clear hb2); (try clear hk); (try clear hi); (try clear ho0); obtain ⟨Ao11, co11, eo11⟩ := Kd.R_slice HO140.out; subst eo11))
      go_loopg [17] k (fun kq v17 w' => ∃ (x3_1 : List Int) (x17_1 : Int), v17 = .int .i64 x17_1 ∧ Aside0 (job_weights.l0 kq x3_1 t138 (t138.length : Int) x17_1 l0_0 = some r) ∧ Aside0 (kq ≤ k) ∧ Aside0 (Kd.R (Kd.int .i64) 3 w' w.heap.size (fun k_ => some k_ ≠ ((.slice Ao11 t138.length co11) : Value).ownBlock) v136 x3_1) ∧ Aside0 (Kd.R (Kd.int .i64) 3 w' w.heap.size (fun k_ => some k_ ≠ (v136 : Value).ownBlock) (.slice Ao11 t138.length co11) t138) ∧ Aside0 (w'.heap[gb134]? = some (.cells #[(.slice A0_0 l0_0.length c0_0)] 24 (0, 0))) ∧ Aside0 (Below w.heap.size w w'))
      case atStart => exact ⟨(y135), (0), (by first | rfl | (simp; done) | (simp [*]; done)), H', ⟨Nat.le_refl _⟩, ⟨by (with_reducible repeat (first | apply Kd.R_alloc | apply Kd.R_drewN | apply Kd.R_drew)); exact Kd.R_mono HO137.out (fun _ hk => hk.2)⟩, ⟨by (with_reducible repeat (first | apply Kd.R_alloc | apply Kd.R_drewN | apply Kd.R_drew)); exact Kd.R_mono HO140.out (fun _ hk => hk.2)⟩, ⟨by (with_reducible repeat (first | refine blk_drewN ?_ _ | refine blk_drew ?_ | refine blk_alloc ?_ _)); exact BK134.out⟩, ⟨by repeat (first | (with_reducible first | exact HB.out | apply below_alloc | apply pw_below_drewN | apply below_drew1 | refine below_set ?_ GE134.out) | exact HB.out)⟩⟩
      case round =>
        clear H'
        try clear c2
        try clear c2b0
        try clear c2b1
        try clear p2
        try clear c3
        try clear c3b0
        try clear c3b1
        try clear c9
        try clear hcz6_0
        try clear hcz9_0
        try clear hfz6_0
        try clear hfz9_0
        obtain ⟨x3_1, x17_1, rfl, HA, HK1, HO_3, HO_15, BK134, HB⟩ := hrel
        cases gk with
        | zero => exact absurd HA.out (by simp [job_weights.l0])
        | succ k1 =>
          have H := HA.out
          clear HA
          simp only [job_weights.l0] at H
          by_cases c12 : x17_1 < (t138.length : Int)
          · rw [if_pos c12] at H
            have c12b0 : decide (x17_1 < (t138.length : Int)) = true := decide_eq_true c12
            clear c12
            by_cases c13 : 0 ≤ x17_1
            · rw [if_pos c13] at H
              have c13b0 : decide (0 ≤ x17_1) = true := decide_eq_true c13
              clear c13
              by_cases c14 : x17_1 < (t138.length : Int)
              · rw [if_pos c14] at H
                have c14b0 : decide (x17_1 < (t138.length : Int)) = true := decide_eq_true c14
                clear c14
                by_cases c15 : 0 ≤ (rd t138 x17_1)
                · rw [if_pos c15] at H
                  have c15b0 : decide (0 ≤ (rd t138 x17_1)) = true := decide_eq_true c15
                  clear c15
                  by_cases c16 : (rd t138 x17_1) < (l0_0.length : Int)
                  · rw [if_pos c16] at H
                    have c16b0 : decide ((rd t138 x17_1) < (l0_0.length : Int)) = true := decide_eq_true c16
                    clear c16
                    have H' := Aside0.mk H
                    clear H
                    have p141 : 0 ≤ (x17_1 : Int) := of_decide_eq_true (by first | (with_reducible assumption) | assumption)
                    have q141 : x17_1 < (t138.length : Int) := of_decide_eq_true (by first | (with_reducible assumption) | assumption)
                    obtain ⟨ad141, e141, hx141_0⟩ := Kd.at_int (Kd.R_reads' HO_15.out).2.2 x17_1 p141 q141
                    cases e141
                    replace p141 := eq_true p141
                    replace q141 := eq_true q141
                    have hcz17_0 : wr.cell? ⟨gb134, 0, none⟩ = some (.slice A0_0 l0_0.length c0_0) := (blk_cell BK134.out 0).trans rfl
                    have hfz17_0 := blk_frozen BK134.out 0
                    have p142 : 0 ≤ ((rd t138 x17_1) : Int) := of_decide_eq_true (by first | (with_reducible assumption) | assumption)
                    have q142 : (rd t138 x17_1) < (l0_0.length : Int) := of_decide_eq_true (by first | (with_reducible assumption) | assumption)
                    obtain ⟨ad142, A142_1, c142_1, A142_5, c142_5, e142, hx142_0, hx142_1, hx142_2, hx142_3, hx142_4, hx142_5, hx142_6, hx142_7, hx142_8, hx142_9, hl142_1, hi142_1, hl142_5, hi142_5⟩ := at_T38 HR0_0.out (rd t138 x17_1) p142 q142
                    cases e142
                    replace hx142_0 := (HB.out.cell (World.block_lt_of_cell? w _ hx142_0)).trans hx142_0
                    replace hx142_1 := (HB.out.cell (World.block_lt_of_cell? w _ hx142_1)).trans hx142_1
                    replace hx142_2 := (HB.out.cell (World.block_lt_of_cell? w _ hx142_2)).trans hx142_2
                    replace hx142_3 := (HB.out.cell (World.block_lt_of_cell? w _ hx142_3)).trans hx142_3
                    replace hx142_4 := (HB.out.cell (World.block_lt_of_cell? w _ hx142_4)).trans hx142_4
                    replace hx142_5 := (HB.out.cell (World.block_lt_of_cell? w _ hx142_5)).trans hx142_5
                    replace hx142_6 := (HB.out.cell (World.block_lt_of_cell? w _ hx142_6)).trans hx142_6
                    replace hx142_7 := (HB.out.cell (World.block_lt_of_cell? w _ hx142_7)).trans hx142_7
                    replace hx142_8 := (HB.out.cell (World.block_lt_of_cell? w _ hx142_8)).trans hx142_8
                    replace hx142_9 := (HB.out.cell (World.block_lt_of_cell? w _ hx142_9)).trans hx142_9
                    have HR142_1 := Aside0.mk hi142_1
                    have HC142_1 := Aside0.mk hl142_1
                    clear hi142_1 hl142_1
                    have HR142_5 := Aside0.mk hi142_5
                    have HC142_5 := Aside0.mk hl142_5
                    clear hi142_5 hl142_5
                    replace p142 := eq_true p142
                    replace q142 := eq_true q142
                    go_wp2_with (first | ((with_reducible refine gate_dst (N := 6) rfl ?_); refine box_event ?hg (N := 6) ?hd (cs := #[.int .i64 0, .slice none 0 0, .int .i64 0, .int .i64 0, .int .i64 0, .slice none 0 0, .int .i64 0, .int .i64 0, .int .i64 0, .int .i64 0]) (t := 38) ?hr ?_; (case hd => rfl); (case hg => rfl); (case hr => first | (go_simp; done) | (go_simp; rfl)); intro gb143 hg w18 hbox hb; have n0_ := Aside0.mk (Kd.R_below (by (with_reducible repeat (first | apply Kd.R_alloc | apply Kd.R_drewN | apply Kd.R_drew)); exact HO_3.out) hb); have n1_ := Aside0.mk (Kd.R_below (by (with_reducible repeat (first | apply Kd.R_alloc | apply Kd.R_drewN | apply Kd.R_drew)); exact HO_15.out) hb); have n2_ := Aside0.mk (blk_below (g := gb134) (o := .cells #[.slice (some ad142) l0_0.length c0_0] 24 (0, 0)) (by (with_reducible repeat (first | refine blk_drewN ?_ _ | refine blk_drew ?_ | refine blk_alloc ?_ _)); exact BK134.out) hb); have n3_ := Aside0.mk (below_step (by repeat (first | (with_reducible first | exact HB.out | apply below_alloc | apply pw_below_drewN | apply below_drew1 | refine below_set ?_ GE134.out) | exact HB.out)) hb); have n4_ := Aside0.mk (hbox); have n5_ := Aside0.mk ((by rw [hg]; exact (below_size (by repeat (first | (with_reducible first | exact HB.out | apply below_alloc | apply pw_below_drewN | apply below_drew1 | refine below_set ?_ GE134.out) | exact HB.out))) : w.heap.size ≤ gb143)); have n6_ := Aside0.mk ((by rw [hg]; exact (below_size (by repeat (first | (with_reducible first | exact HB.out | apply below_alloc | apply pw_below_drewN | apply below_drew1 | refine below_set ?_ GE134.out) | exact HB.out))) : w.heap.size ≤ gb143)); have n7_ := Aside0.mk ((by rw [hg]; exact Nat.ne_of_lt (blk_lt (g := gb134) (o := .cells #[.slice (some ad142) l0_0.length c0_0] 24 (0, 0)) (by (with_reducible repeat (first | refine blk_drewN ?_ _ | refine blk_drew ?_ | refine blk_alloc ?_ _)); exact BK134.out)) : gb134 ≠ gb143)); have n8_ := Aside0.mk ((by rw [hg]; exact Nat.ne_of_gt (blk_lt (g := gb134) (o := .cells #[.slice (some ad142) l0_0.length c0_0] 24 (0, 0)) (by (with_reducible repeat (first | refine blk_drewN ?_ _ | refine blk_drew ?_ | refine blk_alloc ?_ _)); exact BK134.out)) : gb143 ≠ gb134)); clear HO_3; clear HO_15; clear BK134; clear HB; have HO_3 := n0_; have HO_15 := n1_; have BK134 := n2_; have HB := n3_; have BK143 := n4_; have GW143 := n5_; have GE143 := n6_; have NB134_143 := n7_; have NB143_134 := n8_; clear n0_ n1_ n2_ n3_ n4_ n5_ n6_ n7_ n8_; clear hb hbox hg; have hnb19 := NB143_134.out; have hnc19 := NB134_143.out; have hcz20_0 : w18.cell? ⟨gb143, 0, none⟩ = some (.int .i64 0) := (blk_cell BK143.out 0).trans rfl; have hcz20_1 : w18.cell? ⟨gb143, 1, none⟩ = some (.slice none 0 0) := (blk_cell BK143.out 1).trans rfl; have hcz20_2 : w18.cell? ⟨gb143, 2, none⟩ = some (.int .i64 0) := (blk_cell BK143.out 2).trans rfl; have hcz20_3 : w18.cell? ⟨gb143, 3, none⟩ = some (.int .i64 0) := (blk_cell BK143.out 3).trans rfl; have hcz20_4 : w18.cell? ⟨gb143, 4, none⟩ = some (.int .i64 0) := (blk_cell BK143.out 4).trans rfl; have hcz20_5 : w18.cell? ⟨gb143, 5, none⟩ = some (.slice none 0 0) := (blk_cell BK143.out 5).trans rfl; have hcz20_6 : w18.cell? ⟨gb143, 6, none⟩ = some (.int .i64 0) := (blk_cell BK143.out 6).trans rfl; have hcz20_7 : w18.cell? ⟨gb143, 7, none⟩ = some (.int .i64 0) := (blk_cell BK143.out 7).trans rfl; have hcz20_8 : w18.cell? ⟨gb143, 8, none⟩ = some (.int .i64 0) := (blk_cell BK143.out 8).trans rfl; have hcz20_9 : w18.cell? ⟨gb143, 9, none⟩ = some (.int .i64 0) := (blk_cell BK143.out 9).trans rfl; have hfz20_0 := blk_frozen BK143.out 0; have hfz20_1 := blk_frozen BK143.out 1; have hfz20_2 := blk_frozen BK143.out 2; have hfz20_3 := blk_frozen BK143.out 3; have hfz20_4 := blk_frozen BK143.out 4; have hfz20_5 := blk_frozen BK143.out 5; have hfz20_6 := blk_frozen BK143.out 6; have hfz20_7 := blk_frozen BK143.out 7; have hfz20_8 := blk_frozen BK143.out 8; have hfz20_9 := blk_frozen BK143.out 9))
                    go_loopg [7, 29] k1 (fun kq v7 v29 w' => ∃ (x7_2 : Int) (x29_2 : Int), v7 = .int .i64 x7_2 ∧ v29 = .int .i64 x29_2 ∧ Aside0 (job_weights.l1 kq x3_1 (rd t138 x17_1) x7_2 t138 (t138.length : Int) x17_1 ((rd_T38 l0_0 (rd t138 x17_1)).f1) (((rd_T38 l0_0 (rd t138 x17_1)).f1).length : Int) x29_2 l0_0 ((rd_T38 l0_0 (rd t138 x17_1)).f0) ((rd_T38 l0_0 (rd t138 x17_1)).f1) ((rd_T38 l0_0 (rd t138 x17_1)).f2) ((rd_T38 l0_0 (rd t138 x17_1)).f3.f0) ((rd_T38 l0_0 (rd t138 x17_1)).f3.f1) ((rd_T38 l0_0 (rd t138 x17_1)).f3.f2) ((rd_T38 l0_0 (rd t138 x17_1)).f4) ((rd_T38 l0_0 (rd t138 x17_1)).f5.f0) ((rd_T38 l0_0 (rd t138 x17_1)).f5.f1) ((rd_T38 l0_0 (rd t138 x17_1)).f5.f2) = some r) ∧ Aside0 (kq ≤ k1) ∧ Aside0 (Kd.R (Kd.int .i64) 3 w' w.heap.size (fun k_ => some k_ ≠ ((.slice (some ad141) t138.length co11) : Value).ownBlock) v136 x3_1) ∧ Aside0 (Kd.R (Kd.int .i64) 3 w' w.heap.size (fun k_ => some k_ ≠ (v136 : Value).ownBlock) (.slice (some ad141) t138.length co11) t138) ∧ Aside0 (w'.heap[gb134]? = some (.cells #[(.slice (some ad142) l0_0.length c0_0)] 24 (0, 0))) ∧ Aside0 (w'.heap[gb143]? = some (.cells #[.int .i64 ((rd_T38 l0_0 (rd t138 x17_1)).f0), (.slice A142_1 ((rd_T38 l0_0 (rd t138 x17_1)).f1).length c142_1), .int .i64 ((rd_T38 l0_0 (rd t138 x17_1)).f2), .int .i64 ((rd_T38 l0_0 (rd t138 x17_1)).f3.f0), .int .i64 ((rd_T38 l0_0 (rd t138 x17_1)).f3.f1), (.slice A142_5 ((rd_T38 l0_0 (rd t138 x17_1)).f3.f2).length c142_5), .int .i64 ((rd_T38 l0_0 (rd t138 x17_1)).f4), .int .i64 ((rd_T38 l0_0 (rd t138 x17_1)).f5.f0), .int .i64 ((rd_T38 l0_0 (rd t138 x17_1)).f5.f1), .int .i64 ((rd_T38 l0_0 (rd t138 x17_1)).f5.f2)] 38 (0, 0))) ∧ Aside0 (Below w.heap.size w w'))
                    case atStart => exact ⟨(0), (0), (by first | rfl | (simp; done) | (simp [*]; done)), (by first | rfl | (simp; done) | (simp [*]; done)), H', ⟨Nat.le_refl _⟩, ⟨by (with_reducible repeat (first | apply Kd.R_alloc | apply Kd.R_drewN | apply Kd.R_drew)); exact Kd.R_mono (Kd.R_far (p := ⟨gb143, 9, none⟩) (Kd.R_far (p := ⟨gb143, 8, none⟩) (Kd.R_far (p := ⟨gb143, 7, none⟩) (Kd.R_far (p := ⟨gb143, 6, none⟩) (Kd.R_far (p := ⟨gb143, 5, none⟩) (Kd.R_far (p := ⟨gb143, 4, none⟩) (Kd.R_far (p := ⟨gb143, 3, none⟩) (Kd.R_far (p := ⟨gb143, 2, none⟩) (Kd.R_far (p := ⟨gb143, 1, none⟩) (Kd.R_far (p := ⟨gb143, 0, none⟩) (Kd.R_types HO_3.out BK143.out (by decide)) (fun _ hk => hk.2) (.int .i64 ((rd_T38 l0_0 (rd t138 x17_1)).f0))) (fun _ hk => hk.2) (.slice A142_1 ((rd_T38 l0_0 (rd t138 x17_1)).f1).length c142_1)) (fun _ hk => hk.2) (.int .i64 ((rd_T38 l0_0 (rd t138 x17_1)).f2))) (fun _ hk => hk.2) (.int .i64 ((rd_T38 l0_0 (rd t138 x17_1)).f3.f0))) (fun _ hk => hk.2) (.int .i64 ((rd_T38 l0_0 (rd t138 x17_1)).f3.f1))) (fun _ hk => hk.2) (.slice A142_5 ((rd_T38 l0_0 (rd t138 x17_1)).f3.f2).length c142_5)) (fun _ hk => hk.2) (.int .i64 ((rd_T38 l0_0 (rd t138 x17_1)).f4))) (fun _ hk => hk.2) (.int .i64 ((rd_T38 l0_0 (rd t138 x17_1)).f5.f0))) (fun _ hk => hk.2) (.int .i64 ((rd_T38 l0_0 (rd t138 x17_1)).f5.f1))) (fun _ hk => hk.2) (.int .i64 ((rd_T38 l0_0 (rd t138 x17_1)).f5.f2))) (fun _ hk => hk.1)⟩, ⟨by (with_reducible repeat (first | apply Kd.R_alloc | apply Kd.R_drewN | apply Kd.R_drew)); exact Kd.R_mono (Kd.R_far (p := ⟨gb143, 9, none⟩) (Kd.R_far (p := ⟨gb143, 8, none⟩) (Kd.R_far (p := ⟨gb143, 7, none⟩) (Kd.R_far (p := ⟨gb143, 6, none⟩) (Kd.R_far (p := ⟨gb143, 5, none⟩) (Kd.R_far (p := ⟨gb143, 4, none⟩) (Kd.R_far (p := ⟨gb143, 3, none⟩) (Kd.R_far (p := ⟨gb143, 2, none⟩) (Kd.R_far (p := ⟨gb143, 1, none⟩) (Kd.R_far (p := ⟨gb143, 0, none⟩) (Kd.R_types HO_15.out BK143.out (by decide)) (fun _ hk => hk.2) (.int .i64 ((rd_T38 l0_0 (rd t138 x17_1)).f0))) (fun _ hk => hk.2) (.slice A142_1 ((rd_T38 l0_0 (rd t138 x17_1)).f1).length c142_1)) (fun _ hk => hk.2) (.int .i64 ((rd_T38 l0_0 (rd t138 x17_1)).f2))) (fun _ hk => hk.2) (.int .i64 ((rd_T38 l0_0 (rd t138 x17_1)).f3.f0))) (fun _ hk => hk.2) (.int .i64 ((rd_T38 l0_0 (rd t138 x17_1)).f3.f1))) (fun _ hk => hk.2) (.slice A142_5 ((rd_T38 l0_0 (rd t138 x17_1)).f3.f2).length c142_5)) (fun _ hk => hk.2) (.int .i64 ((rd_T38 l0_0 (rd t138 x17_1)).f4))) (fun _ hk => hk.2) (.int .i64 ((rd_T38 l0_0 (rd t138 x17_1)).f5.f0))) (fun _ hk => hk.2) (.int .i64 ((rd_T38 l0_0 (rd t138 x17_1)).f5.f1))) (fun _ hk => hk.2) (.int .i64 ((rd_T38 l0_0 (rd t138 x17_1)).f5.f2))) (fun _ hk => hk.1)⟩, ⟨by (with_reducible repeat (first | refine blk_drewN ?_ _ | refine blk_drew ?_ | refine blk_alloc ?_ _)); refine blk_far ?_ NB134_143.out _; (with_reducible repeat (first | refine blk_drewN ?_ _ | refine blk_drew ?_ | refine blk_alloc ?_ _)); refine blk_far ?_ NB134_143.out _; (with_reducible repeat (first | refine blk_drewN ?_ _ | refine blk_drew ?_ | refine blk_alloc ?_ _)); refine blk_far ?_ NB134_143.out _; (with_reducible repeat (first | refine blk_drewN ?_ _ | refine blk_drew ?_ | refine blk_alloc ?_ _)); refine blk_far ?_ NB134_143.out _; (with_reducible repeat (first | refine blk_drewN ?_ _ | refine blk_drew ?_ | refine blk_alloc ?_ _)); refine blk_far ?_ NB134_143.out _; (with_reducible repeat (first | refine blk_drewN ?_ _ | refine blk_drew ?_ | refine blk_alloc ?_ _)); refine blk_far ?_ NB134_143.out _; (with_reducible repeat (first | refine blk_drewN ?_ _ | refine blk_drew ?_ | refine blk_alloc ?_ _)); refine blk_far ?_ NB134_143.out _; (with_reducible repeat (first | refine blk_drewN ?_ _ | refine blk_drew ?_ | refine blk_alloc ?_ _)); refine blk_far ?_ NB134_143.out _; (with_reducible repeat (first | refine blk_drewN ?_ _ | refine blk_drew ?_ | refine blk_alloc ?_ _)); refine blk_far ?_ NB134_143.out _; (with_reducible repeat (first | refine blk_drewN ?_ _ | refine blk_drew ?_ | refine blk_alloc ?_ _)); refine blk_far ?_ NB134_143.out _; (with_reducible repeat (first | refine blk_drewN ?_ _ | refine blk_drew ?_ | refine blk_alloc ?_ _)); exact BK134.out⟩, ⟨by (with_reducible repeat (first | refine blk_drewN ?_ _ | refine blk_drew ?_ | refine blk_alloc ?_ _)); refine blk_put (cs := #[.int .i64 ((rd_T38 l0_0 (rd t138 x17_1)).f0), .slice A142_1 ((rd_T38 l0_0 (rd t138 x17_1)).f1).length c142_1, .int .i64 ((rd_T38 l0_0 (rd t138 x17_1)).f2), .int .i64 ((rd_T38 l0_0 (rd t138 x17_1)).f3.f0), .int .i64 ((rd_T38 l0_0 (rd t138 x17_1)).f3.f1), .slice A142_5 ((rd_T38 l0_0 (rd t138 x17_1)).f3.f2).length c142_5, .int .i64 ((rd_T38 l0_0 (rd t138 x17_1)).f4), .int .i64 ((rd_T38 l0_0 (rd t138 x17_1)).f5.f0), .int .i64 ((rd_T38 l0_0 (rd t138 x17_1)).f5.f1), .int .i64 0]) ?_ 9 _ rfl; (with_reducible repeat (first | refine blk_drewN ?_ _ | refine blk_drew ?_ | refine blk_alloc ?_ _)); refine blk_put (cs := #[.int .i64 ((rd_T38 l0_0 (rd t138 x17_1)).f0), .slice A142_1 ((rd_T38 l0_0 (rd t138 x17_1)).f1).length c142_1, .int .i64 ((rd_T38 l0_0 (rd t138 x17_1)).f2), .int .i64 ((rd_T38 l0_0 (rd t138 x17_1)).f3.f0), .int .i64 ((rd_T38 l0_0 (rd t138 x17_1)).f3.f1), .slice A142_5 ((rd_T38 l0_0 (rd t138 x17_1)).f3.f2).length c142_5, .int .i64 ((rd_T38 l0_0 (rd t138 x17_1)).f4), .int .i64 ((rd_T38 l0_0 (rd t138 x17_1)).f5.f0), .int .i64 0, .int .i64 0]) ?_ 8 _ rfl; (with_reducible repeat (first | refine blk_drewN ?_ _ | refine blk_drew ?_ | refine blk_alloc ?_ _)); refine blk_put (cs := #[.int .i64 ((rd_T38 l0_0 (rd t138 x17_1)).f0), .slice A142_1 ((rd_T38 l0_0 (rd t138 x17_1)).f1).length c142_1, .int .i64 ((rd_T38 l0_0 (rd t138 x17_1)).f2), .int .i64 ((rd_T38 l0_0 (rd t138 x17_1)).f3.f0), .int .i64 ((rd_T38 l0_0 (rd t138 x17_1)).f3.f1), .slice A142_5 ((rd_T38 l0_0 (rd t138 x17_1)).f3.f2).length c142_5, .int .i64 ((rd_T38 l0_0 (rd t138 x17_1)).f4), .int .i64 0, .int .i64 0, .int .i64 0]) ?_ 7 _ rfl; (with_reducible repeat (first | refine blk_drewN ?_ _ | refine blk_drew ?_ | refine blk_alloc ?_ _)); refine blk_put (cs := #[.int .i64 ((rd_T38 l0_0 (rd t138 x17_1)).f0), .slice A142_1 ((rd_T38 l0_0 (rd t138 x17_1)).f1).length c142_1, .int .i64 ((rd_T38 l0_0 (rd t138 x17_1)).f2), .int .i64 ((rd_T38 l0_0 (rd t138 x17_1)).f3.f0), .int .i64 ((rd_T38 l0_0 (rd t138 x17_1)).f3.f1), .slice A142_5 ((rd_T38 l0_0 (rd t138 x17_1)).f3.f2).length c142_5, .int .i64 0, .int .i64 0, .int .i64 0, .int .i64 0]) ?_ 6 _ rfl; (with_reducible repeat (first | refine blk_drewN ?_ _ | refine blk_drew ?_ | refine blk_alloc ?_ _)); refine blk_put (cs := #[.int .i64 ((rd_T38 l0_0 (rd t138 x17_1)).f0), .slice A142_1 ((rd_T38 l0_0 (rd t138 x17_1)).f1).length c142_1, .int .i64 ((rd_T38 l0_0 (rd t138 x17_1)).f2), .int .i64 ((rd_T38 l0_0 (rd t138 x17_1)).f3.f0), .int .i64 ((rd_T38 l0_0 (rd t138 x17_1)).f3.f1), .slice none 0 0, .int .i64 0, .int .i64 0, .int .i64 0, .int .i64 0]) ?_ 5 _ rfl; (with_reducible repeat (first | refine blk_drewN ?_ _ | refine blk_drew ?_ | refine blk_alloc ?_ _)); refine blk_put (cs := #[.int .i64 ((rd_T38 l0_0 (rd t138 x17_1)).f0), .slice A142_1 ((rd_T38 l0_0 (rd t138 x17_1)).f1).length c142_1, .int .i64 ((rd_T38 l0_0 (rd t138 x17_1)).f2), .int .i64 ((rd_T38 l0_0 (rd t138 x17_1)).f3.f0), .int .i64 0, .slice none 0 0, .int .i64 0, .int .i64 0, .int .i64 0, .int .i64 0]) ?_ 4 _ rfl; (with_reducible repeat (first | refine blk_drewN ?_ _ | refine blk_drew ?_ | refine blk_alloc ?_ _)); refine blk_put (cs := #[.int .i64 ((rd_T38 l0_0 (rd t138 x17_1)).f0), .slice A142_1 ((rd_T38 l0_0 (rd t138 x17_1)).f1).length c142_1, .int .i64 ((rd_T38 l0_0 (rd t138 x17_1)).f2), .int .i64 0, .int .i64 0, .slice none 0 0, .int .i64 0, .int .i64 0, .int .i64 0, .int .i64 0]) ?_ 3 _ rfl; (with_reducible repeat (first | refine blk_drewN ?_ _ | refine blk_drew ?_ | refine blk_alloc ?_ _)); refine blk_put (cs := #[.int .i64 ((rd_T38 l0_0 (rd t138 x17_1)).f0), .slice A142_1 ((rd_T38 l0_0 (rd t138 x17_1)).f1).length c142_1, .int .i64 0, .int .i64 0, .int .i64 0, .slice none 0 0, .int .i64 0, .int .i64 0, .int .i64 0, .int .i64 0]) ?_ 2 _ rfl; (with_reducible repeat (first | refine blk_drewN ?_ _ | refine blk_drew ?_ | refine blk_alloc ?_ _)); refine blk_put (cs := #[.int .i64 ((rd_T38 l0_0 (rd t138 x17_1)).f0), .slice none 0 0, .int .i64 0, .int .i64 0, .int .i64 0, .slice none 0 0, .int .i64 0, .int .i64 0, .int .i64 0, .int .i64 0]) ?_ 1 _ rfl; (with_reducible repeat (first | refine blk_drewN ?_ _ | refine blk_drew ?_ | refine blk_alloc ?_ _)); refine blk_put (cs := #[.int .i64 0, .slice none 0 0, .int .i64 0, .int .i64 0, .int .i64 0, .slice none 0 0, .int .i64 0, .int .i64 0, .int .i64 0, .int .i64 0]) ?_ 0 _ rfl; (with_reducible repeat (first | refine blk_drewN ?_ _ | refine blk_drew ?_ | refine blk_alloc ?_ _)); exact BK143.out⟩, ⟨by repeat (first | (with_reducible first | exact HB.out | apply below_alloc | apply pw_below_drewN | apply below_drew1 | refine below_set ?_ GE134.out | refine below_set ?_ GE143.out) | exact HB.out)⟩⟩
                    case round =>
                      clear H'
                      try clear c1
                      try clear p1
                      try clear q1
                      try clear hx1
                      try clear c2
                      try clear c2b0
                      try clear c2b1
                      try clear p2
                      try clear c3
                      try clear c3b0
                      try clear c3b1
                      try clear c9
                      try clear c12
                      try clear c12b0
                      try clear c13
                      try clear c13b0
                      try clear c14
                      try clear c14b0
                      try clear p14
                      try clear q14
                      try clear hx14
                      try clear c15
                      try clear c15b0
                      try clear c16
                      try clear c16b0
                      try clear c19
                      try clear c20
                      try clear hcz17_0
                      try clear hcz20_0
                      try clear hcz20_1
                      try clear hcz20_2
                      try clear hcz20_3
                      try clear hcz20_4
                      try clear hcz20_5
                      try clear hcz20_6
                      try clear hcz20_7
                      try clear hcz20_8
                      try clear hcz20_9
                      try clear hcz6_0
                      try clear hcz9_0
                      try clear hfz17_0
                      try clear hfz20_0
                      try clear hfz20_1
                      try clear hfz20_2
                      try clear hfz20_3
                      try clear hfz20_4
                      try clear hfz20_5
                      try clear hfz20_6
                      try clear hfz20_7
                      try clear hfz20_8
                      try clear hfz20_9
                      try clear hfz6_0
                      try clear hfz9_0
                      try clear hx141_0
                      try clear hx142_0
                      try clear hx142_1
                      try clear hx142_2
                      try clear hx142_3
                      try clear hx142_4
                      try clear hx142_5
                      try clear hx142_6
                      try clear hx142_7
                      try clear hx142_8
                      try clear hx142_9
                      try clear p141
                      try clear p142
                      try clear p2
                      try clear q141
                      try clear q142
                      obtain ⟨x7_2, x29_2, rfl, rfl, HA, HK2, HO_3, HO_15, BK134, BK143, HB⟩ := hrel
                      cases gk with
                      | zero => exact absurd HA.out (by simp [job_weights.l1])
                      | succ k2 =>
                        have H := HA.out
                        clear HA
                        simp only [job_weights.l1] at H
                        by_cases c21 : x29_2 < (((rd_T38 l0_0 (rd t138 x17_1)).f1).length : Int)
                        · rw [if_pos c21] at H
                          have c21b0 : decide (x29_2 < (((rd_T38 l0_0 (rd t138 x17_1)).f1).length : Int)) = true := decide_eq_true c21
                          clear c21
                          by_cases c22 : 0 ≤ x29_2
                          · rw [if_pos c22] at H
                            have c22b0 : decide (0 ≤ x29_2) = true := decide_eq_true c22
                            clear c22
                            by_cases c23 : x29_2 < (((rd_T38 l0_0 (rd t138 x17_1)).f1).length : Int)
                            · rw [if_pos c23] at H
                              have c23b0 : decide (x29_2 < (((rd_T38 l0_0 (rd t138 x17_1)).f1).length : Int)) = true := decide_eq_true c23
                              clear c23
                              by_cases c24 : 0 ≤ (rd ((rd_T38 l0_0 (rd t138 x17_1)).f1) x29_2)
                              · rw [if_pos c24] at H
                                have c24b0 : decide (0 ≤ (rd ((rd_T38 l0_0 (rd t138 x17_1)).f1) x29_2)) = true := decide_eq_true c24
                                clear c24
                                by_cases c25 : (rd ((rd_T38 l0_0 (rd t138 x17_1)).f1) x29_2) < (x3_1.length : Int)
                                · rw [if_pos c25] at H
                                  have c25b0 : decide ((rd ((rd_T38 l0_0 (rd t138 x17_1)).f1) x29_2) < (x3_1.length : Int)) = true := decide_eq_true c25
                                  clear c25
                                  have H' := Aside0.mk H
                                  clear H
                                  have p144 : 0 ≤ (x29_2 : Int) := of_decide_eq_true (by first | (with_reducible assumption) | assumption)
                                  have q144 : x29_2 < (((rd_T38 l0_0 (rd t138 x17_1)).f1).length : Int) := of_decide_eq_true (by first | (with_reducible assumption) | assumption)
                                  obtain ⟨ad144, e144, hx144_0⟩ := Kd.at_int HR142_1.out x29_2 p144 q144
                                  cases e144
                                  replace hx144_0 := (HB.out.cell (World.block_lt_of_cell? w _ hx144_0)).trans hx144_0
                                  replace p144 := eq_true p144
                                  replace q144 := eq_true q144
                                  obtain ⟨Ao26, co26, eo26⟩ := Kd.R_slice HO_3.out
                                  subst eo26
                                  have p145 : 0 ≤ ((rd ((rd_T38 l0_0 (rd t138 x17_1)).f1) x29_2) : Int) := of_decide_eq_true (by first | (with_reducible assumption) | assumption)
                                  have q145 : (rd ((rd_T38 l0_0 (rd t138 x17_1)).f1) x29_2) < (x3_1.length : Int) := of_decide_eq_true (by first | (with_reducible assumption) | assumption)
                                  obtain ⟨ad145, e145, hx145_0⟩ := Kd.at_int (Kd.R_reads' HO_3.out).2.2 (rd ((rd_T38 l0_0 (rd t138 x17_1)).f1) x29_2) p145 q145
                                  cases e145
                                  replace p145 := eq_true p145
                                  replace q145 := eq_true q145
                                  go_wp2
                                  go_roundg k2
                                  case measure => have := HK1.out; have := HK2.out; omega
                                  case rel => exact ⟨(wrap64 (x7_2 + (rd x3_1 (rd ((rd_T38 l0_0 (rd t138 x17_1)).f1) x29_2)))), (wrap64 (x29_2 + 1)), (by first | rfl | (simp; done) | (simp [*]; done)), (by first | rfl | (simp; done) | (simp [*]; done)), H', ⟨by have := HK1.out; have := HK2.out; omega⟩, ⟨by (with_reducible repeat (first | apply Kd.R_alloc | apply Kd.R_drewN | apply Kd.R_drew)); exact HO_3.out⟩, ⟨by (with_reducible repeat (first | apply Kd.R_alloc | apply Kd.R_drewN | apply Kd.R_drew)); exact HO_15.out⟩, ⟨by (with_reducible repeat (first | refine blk_drewN ?_ _ | refine blk_drew ?_ | refine blk_alloc ?_ _)); exact BK134.out⟩, ⟨by (with_reducible repeat (first | refine blk_drewN ?_ _ | refine blk_drew ?_ | refine blk_alloc ?_ _)); exact BK143.out⟩, ⟨by repeat (first | (with_reducible first | exact HB.out | apply below_alloc | apply pw_below_drewN | apply below_drew1 | refine below_set ?_ GE134.out | refine below_set ?_ GE143.out) | exact HB.out)⟩⟩
                                · rw [if_neg c25] at H
                                  exact absurd H (by simp)
                              · rw [if_neg c24] at H
                                exact absurd H (by simp)
                            · rw [if_neg c23] at H
                              exact absurd H (by simp)
                          · rw [if_neg c22] at H
                            exact absurd H (by simp)
                        · rw [if_neg c21] at H
                          have c21b0 : decide (x29_2 < (((rd_T38 l0_0 (rd t138 x17_1)).f1).length : Int)) = false := decide_eq_false c21
                          clear c21
                          by_cases c27 : ((rd_T38 l0_0 (rd t138 x17_1)).f0) = 1
                          · rw [if_pos c27] at H
                            have c27b0 : (((rd_T38 l0_0 (rd t138 x17_1)).f0) == 1) = true := beq_iff_eq.mpr c27
                            have c27b1 : (((rd_T38 l0_0 (rd t138 x17_1)).f0) != 1) = false := bne_eq_false_iff_eq.mpr c27
                            clear c27
                            by_cases c28 : 0 ≤ (rd t138 x17_1)
                            · rw [if_pos c28] at H
                              have c28b0 : decide (0 ≤ (rd t138 x17_1)) = true := decide_eq_true c28
                              clear c28
                              by_cases c29 : (rd t138 x17_1) < (x3_1.length : Int)
                              · rw [if_pos c29] at H
                                have c29b0 : decide ((rd t138 x17_1) < (x3_1.length : Int)) = true := decide_eq_true c29
                                clear c29
                                obtain ⟨y146, hy146⟩ : ∃ y_ : List Int, y_ = (x3_1.set ((rd t138 x17_1) : Int).toNat 1) := ⟨_, rfl⟩
                                replace H : (job_weights.l0 k2 y146 t138 (t138.length : Int) (wrap64 (x17_1 + 1)) l0_0) = some r := by first | (rw [hy146]; with_reducible exact H) | (have H2_ := (Option.bind_some _ _).symm.trans H; rw [hy146]; with_reducible exact H2_) | (have H2_ := (Option.bind_some _ _).symm.trans H; with_reducible exact H2_) | with_reducible exact H | (rw [hy146]; exact H) | exact H
                                have Ny146 := Aside0.mk hy146
                                clear hy146
                                have H' := Aside0.mk H
                                clear H
                                have hnb31 := NB143_134.out
                                have hnc31 := NB134_143.out
                                have hcz32_0 : wr.cell? ⟨gb143, 0, none⟩ = some (.int .i64 ((rd_T38 l0_0 (rd t138 x17_1)).f0)) := (blk_cell BK143.out 0).trans rfl
                                have hcz32_1 : wr.cell? ⟨gb143, 1, none⟩ = some (.slice A142_1 ((rd_T38 l0_0 (rd t138 x17_1)).f1).length c142_1) := (blk_cell BK143.out 1).trans rfl
                                have hcz32_2 : wr.cell? ⟨gb143, 2, none⟩ = some (.int .i64 ((rd_T38 l0_0 (rd t138 x17_1)).f2)) := (blk_cell BK143.out 2).trans rfl
                                have hcz32_3 : wr.cell? ⟨gb143, 3, none⟩ = some (.int .i64 ((rd_T38 l0_0 (rd t138 x17_1)).f3.f0)) := (blk_cell BK143.out 3).trans rfl
                                have hcz32_4 : wr.cell? ⟨gb143, 4, none⟩ = some (.int .i64 ((rd_T38 l0_0 (rd t138 x17_1)).f3.f1)) := (blk_cell BK143.out 4).trans rfl
                                have hcz32_5 : wr.cell? ⟨gb143, 5, none⟩ = some (.slice A142_5 ((rd_T38 l0_0 (rd t138 x17_1)).f3.f2).length c142_5) := (blk_cell BK143.out 5).trans rfl
                                have hcz32_6 : wr.cell? ⟨gb143, 6, none⟩ = some (.int .i64 ((rd_T38 l0_0 (rd t138 x17_1)).f4)) := (blk_cell BK143.out 6).trans rfl
                                have hcz32_7 : wr.cell? ⟨gb143, 7, none⟩ = some (.int .i64 ((rd_T38 l0_0 (rd t138 x17_1)).f5.f0)) := (blk_cell BK143.out 7).trans rfl
                                have hcz32_8 : wr.cell? ⟨gb143, 8, none⟩ = some (.int .i64 ((rd_T38 l0_0 (rd t138 x17_1)).f5.f1)) := (blk_cell BK143.out 8).trans rfl
                                have hcz32_9 : wr.cell? ⟨gb143, 9, none⟩ = some (.int .i64 ((rd_T38 l0_0 (rd t138 x17_1)).f5.f2)) := (blk_cell BK143.out 9).trans rfl
                                have hfz32_0 := blk_frozen BK143.out 0
                                have hfz32_1 := blk_frozen BK143.out 1
                                have hfz32_2 := blk_frozen BK143.out 2
                                have hfz32_3 := blk_frozen BK143.out 3
                                have hfz32_4 := blk_frozen BK143.out 4
                                have hfz32_5 := blk_frozen BK143.out 5
                                have hfz32_6 := blk_frozen BK143.out 6
                                have hfz32_7 := blk_frozen BK143.out 7
                                have hfz32_8 := blk_frozen BK143.out 8
                                have hfz32_9 := blk_frozen BK143.out 9
                                have p30 : 0 ≤ ((rd t138 x17_1) : Int) := of_decide_eq_true (by first | (with_reducible assumption) | assumption)
                                have q30 : ((rd t138 x17_1) : Int) < ((x3_1.length : Int) : Int) := of_decide_eq_true (by first | (with_reducible assumption) | assumption)
                                obtain ⟨go30, co30, eo30, gb30, gl30, cl30, HG30⟩ := Kd.R_form HO_3.out (by omega)
                                (first | cases eo30 | (injection eo30 with ea_ en_ ec_; (first | subst ea_ | (injection ea_ with ea_; subst ea_)); subst ec_; clear en_))
                                have GB30 := Aside0.mk gb30
                                have GG30 := Aside0.mk HG30
                                clear gb30 gl30 HG30
                                obtain ⟨hx30_0, hf30_0⟩ := Kd.R_celln 0 HO_3.out ((rd t138 x17_1) : Int) p30 q30
                                replace p30 := eq_true p30
                                replace q30 := eq_true q30
                                have HP33 := Kd.R_putg HO_3.out ((rd t138 x17_1) : Int) 1
                                go_wp2_with (first | ((with_reducible refine gate_store (t := 3) (p := 72) rfl ?_); refine store_event (t := 3) (p := 72) (v := ?vo_w34) (w1 := (wr.setCell ⟨go30, ((rd t138 x17_1) : Int).toNat, none⟩ (.int .i64 1))) ?hg ?ho ?hn ?hr ?_; (case ho => rfl); (case hg => rfl); (case hn => rfl); (case hr => first | (go_simp; done) | (go_simp; rfl)); intro w34 hw; have hg : wr.grownBy w34 (some go30) := (by rw [hw]; exact HP33.2); have hp_ : Kd.R (Kd.int .i64) 3 w34 w.heap.size (fun k_ => some k_ ≠ (.slice (some ad141) t138.length co11 : Value).ownBlock) (.slice (some ⟨go30, 0, none⟩) x3_1.length co30) y146 := (by rw [hw, Ny146.out]; exact HP33.1); clear HP33; have n0_ := Aside0.mk (hp_); have n1_ := Aside0.mk (Kd.R_after (v := (.slice (some ⟨go30, 0, none⟩) x3_1.length co30)) (v1 := (.slice (some ⟨go30, 0, none⟩) x3_1.length co30)) (ok := (fun _ => True)) (by (with_reducible repeat (first | apply Kd.R_alloc | apply Kd.R_drewN | apply Kd.R_drew)); exact Kd.R_mono HO_15.out (fun _ hk => ⟨trivial, hk⟩)) hg (.inl rfl)); have n2_ := Aside0.mk (blk_grown (g := gb134) (o := .cells #[.slice (some ad142) l0_0.length c0_0] 24 (0, 0)) (by (with_reducible repeat (first | refine blk_drewN ?_ _ | refine blk_drew ?_ | refine blk_alloc ?_ _)); exact BK134.out) hg (Kd.R_ne HO_3.out BK134.out (by decide))); have n3_ := Aside0.mk (blk_grown (g := gb143) (o := .cells #[.int .i64 ((rd_T38 l0_0 (rd t138 x17_1)).f0), .slice A142_1 ((rd_T38 l0_0 (rd t138 x17_1)).f1).length c142_1, .int .i64 ((rd_T38 l0_0 (rd t138 x17_1)).f2), .int .i64 ((rd_T38 l0_0 (rd t138 x17_1)).f3.f0), .int .i64 ((rd_T38 l0_0 (rd t138 x17_1)).f3.f1), .slice A142_5 ((rd_T38 l0_0 (rd t138 x17_1)).f3.f2).length c142_5, .int .i64 ((rd_T38 l0_0 (rd t138 x17_1)).f4), .int .i64 ((rd_T38 l0_0 (rd t138 x17_1)).f5.f0), .int .i64 ((rd_T38 l0_0 (rd t138 x17_1)).f5.f1), .int .i64 ((rd_T38 l0_0 (rd t138 x17_1)).f5.f2)] 38 (0, 0)) (by (with_reducible repeat (first | refine blk_drewN ?_ _ | refine blk_drew ?_ | refine blk_alloc ?_ _)); exact BK143.out) hg (Kd.R_ne HO_3.out BK143.out (by decide))); have n4_ := Aside0.mk ((by rw [hw]; exact below_set (HB.out) GB30.out : Below w.heap.size w w34)); clear HO_3; clear HO_15; clear BK134; clear BK143; clear HB; have HO_3 := n0_; have HO_15 := n1_; have BK134 := n2_; have BK143 := n3_; have HB := n4_; clear n0_ n1_ n2_ n3_ n4_; clear hg hw hp_))
                                go_roundg k2
                                case measure => have := HK1.out; have := HK2.out; omega
                                case rel => exact ⟨(y146), (wrap64 (x17_1 + 1)), (by first | rfl | (simp; done) | (simp [*]; done)), H', ⟨by have := HK1.out; have := HK2.out; omega⟩, ⟨by (with_reducible repeat (first | apply Kd.R_alloc | apply Kd.R_drewN | apply Kd.R_drew)); exact HO_3.out⟩, ⟨by (with_reducible repeat (first | apply Kd.R_alloc | apply Kd.R_drewN | apply Kd.R_drew)); exact Kd.R_mono HO_15.out (fun _ hk => hk.2)⟩, ⟨by (with_reducible repeat (first | refine blk_drewN ?_ _ | refine blk_drew ?_ | refine blk_alloc ?_ _)); exact BK134.out⟩, ⟨by repeat (first | (with_reducible first | exact HB.out | apply below_alloc | apply pw_below_drewN | apply below_drew1 | refine below_set ?_ GE134.out | refine below_set ?_ GE143.out) | exact HB.out)⟩⟩
                              · rw [if_neg c29] at H
                                exact absurd H (by simp)
                            · rw [if_neg c28] at H
                              exact absurd H (by simp)
                          · rw [if_neg c27] at H
                            have c27b0 : (((rd_T38 l0_0 (rd t138 x17_1)).f0) == 1) = false := beq_eq_false_iff_ne.mpr c27
                            have c27b1 : (((rd_T38 l0_0 (rd t138 x17_1)).f0) != 1) = true := bne_iff_ne.mpr c27
                            by_cases c35 : ((rd_T38 l0_0 (rd t138 x17_1)).f0) = 7
                            · rw [if_pos c35] at H
                              have c35b0 : (((rd_T38 l0_0 (rd t138 x17_1)).f0) == 7) = true := beq_iff_eq.mpr c35
                              have c35b1 : (((rd_T38 l0_0 (rd t138 x17_1)).f0) != 7) = false := bne_eq_false_iff_eq.mpr c35
                              clear c35
                              by_cases c36 : ((rd_T38 l0_0 (rd t138 x17_1)).f5.f0) = 2
                              · rw [if_pos c36] at H
                                have c36b0 : (((rd_T38 l0_0 (rd t138 x17_1)).f5.f0) == 2) = true := beq_iff_eq.mpr c36
                                have c36b1 : (((rd_T38 l0_0 (rd t138 x17_1)).f5.f0) != 2) = false := bne_eq_false_iff_eq.mpr c36
                                clear c36
                                by_cases c37 : ((rd_T38 l0_0 (rd t138 x17_1)).f5.f2) = 0
                                · rw [if_pos c37] at H
                                  exact absurd H (by simp)
                                · rw [if_neg c37] at H
                                  have c37b0 : (((rd_T38 l0_0 (rd t138 x17_1)).f5.f2) == 0) = false := beq_eq_false_iff_ne.mpr c37
                                  have c37b1 : (((rd_T38 l0_0 (rd t138 x17_1)).f5.f2) != 0) = true := bne_iff_ne.mpr c37
                                  obtain ⟨ji38, hji38⟩ : ∃ j_ : Int, (mn (wrap64 (x7_2 * (wrap64 (Int.tdiv (wrap64 ((wrap64 (((rd_T38 l0_0 (rd t138 x17_1)).f5.f1) + ((rd_T38 l0_0 (rd t138 x17_1)).f5.f2))) - 1)) ((rd_T38 l0_0 (rd t138 x17_1)).f5.f2))))) 65) = j_ := ⟨_, rfl⟩
                                  replace H : (if 0 ≤ (rd t138 x17_1) then (if (rd t138 x17_1) < (x3_1.length : Int) then (job_weights.l0 k2 (x3_1.set ((rd t138 x17_1) : Int).toNat (ji38)) t138 (t138.length : Int) (wrap64 (x17_1 + 1)) l0_0) else (none)) else (none)) = some r := by first | (rw [hji38] at H; exact H) | (simp only [hji38] at H ⊢; exact H)
                                  have hji38_ : (if 65 < (wrap64 (x7_2 * (wrap64 (Int.tdiv (wrap64 ((wrap64 (((rd_T38 l0_0 (rd t138 x17_1)).f5.f1) + ((rd_T38 l0_0 (rd t138 x17_1)).f5.f2))) - 1)) ((rd_T38 l0_0 (rd t138 x17_1)).f5.f2))))) then 65 else (wrap64 (x7_2 * (wrap64 (Int.tdiv (wrap64 ((wrap64 (((rd_T38 l0_0 (rd t138 x17_1)).f5.f1) + ((rd_T38 l0_0 (rd t138 x17_1)).f5.f2))) - 1)) ((rd_T38 l0_0 (rd t138 x17_1)).f5.f2)))))) = ji38 := hji38
                                  by_cases c39 : 0 ≤ (rd t138 x17_1)
                                  · rw [if_pos c39] at H
                                    have c39b0 : decide (0 ≤ (rd t138 x17_1)) = true := decide_eq_true c39
                                    clear c39
                                    by_cases c40 : (rd t138 x17_1) < (x3_1.length : Int)
                                    · rw [if_pos c40] at H
                                      have c40b0 : decide ((rd t138 x17_1) < (x3_1.length : Int)) = true := decide_eq_true c40
                                      clear c40
                                      obtain ⟨y147, hy147⟩ : ∃ y_ : List Int, y_ = (x3_1.set ((rd t138 x17_1) : Int).toNat (ji38)) := ⟨_, rfl⟩
                                      replace H : (job_weights.l0 k2 y147 t138 (t138.length : Int) (wrap64 (x17_1 + 1)) l0_0) = some r := by first | (rw [hy147]; with_reducible exact H) | (have H2_ := (Option.bind_some _ _).symm.trans H; rw [hy147]; with_reducible exact H2_) | (have H2_ := (Option.bind_some _ _).symm.trans H; with_reducible exact H2_) | with_reducible exact H | (rw [hy147]; exact H) | exact H
                                      have Ny147 := Aside0.mk hy147
                                      clear hy147
                                      have H' := Aside0.mk H
                                      clear H
                                      have hnb42 := NB143_134.out
                                      have hnc42 := NB134_143.out
                                      have hcz43_0 : wr.cell? ⟨gb143, 0, none⟩ = some (.int .i64 ((rd_T38 l0_0 (rd t138 x17_1)).f0)) := (blk_cell BK143.out 0).trans rfl
                                      have hcz43_1 : wr.cell? ⟨gb143, 1, none⟩ = some (.slice A142_1 ((rd_T38 l0_0 (rd t138 x17_1)).f1).length c142_1) := (blk_cell BK143.out 1).trans rfl
                                      have hcz43_2 : wr.cell? ⟨gb143, 2, none⟩ = some (.int .i64 ((rd_T38 l0_0 (rd t138 x17_1)).f2)) := (blk_cell BK143.out 2).trans rfl
                                      have hcz43_3 : wr.cell? ⟨gb143, 3, none⟩ = some (.int .i64 ((rd_T38 l0_0 (rd t138 x17_1)).f3.f0)) := (blk_cell BK143.out 3).trans rfl
                                      have hcz43_4 : wr.cell? ⟨gb143, 4, none⟩ = some (.int .i64 ((rd_T38 l0_0 (rd t138 x17_1)).f3.f1)) := (blk_cell BK143.out 4).trans rfl
                                      have hcz43_5 : wr.cell? ⟨gb143, 5, none⟩ = some (.slice A142_5 ((rd_T38 l0_0 (rd t138 x17_1)).f3.f2).length c142_5) := (blk_cell BK143.out 5).trans rfl
                                      have hcz43_6 : wr.cell? ⟨gb143, 6, none⟩ = some (.int .i64 ((rd_T38 l0_0 (rd t138 x17_1)).f4)) := (blk_cell BK143.out 6).trans rfl
                                      have hcz43_7 : wr.cell? ⟨gb143, 7, none⟩ = some (.int .i64 ((rd_T38 l0_0 (rd t138 x17_1)).f5.f0)) := (blk_cell BK143.out 7).trans rfl
                                      have hcz43_8 : wr.cell? ⟨gb143, 8, none⟩ = some (.int .i64 ((rd_T38 l0_0 (rd t138 x17_1)).f5.f1)) := (blk_cell BK143.out 8).trans rfl
                                      have hcz43_9 : wr.cell? ⟨gb143, 9, none⟩ = some (.int .i64 ((rd_T38 l0_0 (rd t138 x17_1)).f5.f2)) := (blk_cell BK143.out 9).trans rfl
                                      have hfz43_0 := blk_frozen BK143.out 0
                                      have hfz43_1 := blk_frozen BK143.out 1
                                      have hfz43_2 := blk_frozen BK143.out 2
                                      have hfz43_3 := blk_frozen BK143.out 3
                                      have hfz43_4 := blk_frozen BK143.out 4
                                      have hfz43_5 := blk_frozen BK143.out 5
                                      have hfz43_6 := blk_frozen BK143.out 6
                                      have hfz43_7 := blk_frozen BK143.out 7
                                      have hfz43_8 := blk_frozen BK143.out 8
                                      have hfz43_9 := blk_frozen BK143.out 9
                                      have p41 : 0 ≤ ((rd t138 x17_1) : Int) := of_decide_eq_true (by first | (with_reducible assumption) | assumption)
                                      have q41 : ((rd t138 x17_1) : Int) < ((x3_1.length : Int) : Int) := of_decide_eq_true (by first | (with_reducible assumption) | assumption)
                                      obtain ⟨go41, co41, eo41, gb41, gl41, cl41, HG41⟩ := Kd.R_form HO_3.out (by omega)
                                      (first | cases eo41 | (injection eo41 with ea_ en_ ec_; (first | subst ea_ | (injection ea_ with ea_; subst ea_)); subst ec_; clear en_))
                                      have GB41 := Aside0.mk gb41
                                      have GG41 := Aside0.mk HG41
                                      clear gb41 gl41 HG41
                                      obtain ⟨hx41_0, hf41_0⟩ := Kd.R_celln 0 HO_3.out ((rd t138 x17_1) : Int) p41 q41
                                      replace p41 := eq_true p41
                                      replace q41 := eq_true q41
                                      have HP44 := Kd.R_putg HO_3.out ((rd t138 x17_1) : Int) ji38
                                      go_wp2_with (first | ((with_reducible refine gate_store (t := 3) (p := 72) rfl ?_); refine store_event (t := 3) (p := 72) (v := ?vo_w45) (w1 := (wr.setCell ⟨go41, ((rd t138 x17_1) : Int).toNat, none⟩ (.int .i64 ji38))) ?hg ?ho ?hn ?hr ?_; (case ho => rfl); (case hg => rfl); (case hn => rfl); (case hr => first | (go_simp; done) | (go_simp; rfl)); intro w45 hw; have hg : wr.grownBy w45 (some go41) := (by rw [hw]; exact HP44.2); have hp_ : Kd.R (Kd.int .i64) 3 w45 w.heap.size (fun k_ => some k_ ≠ (.slice (some ad141) t138.length co11 : Value).ownBlock) (.slice (some ⟨go41, 0, none⟩) x3_1.length co41) y147 := (by rw [hw, Ny147.out]; exact HP44.1); clear HP44; have n0_ := Aside0.mk (hp_); have n1_ := Aside0.mk (Kd.R_after (v := (.slice (some ⟨go41, 0, none⟩) x3_1.length co41)) (v1 := (.slice (some ⟨go41, 0, none⟩) x3_1.length co41)) (ok := (fun _ => True)) (by (with_reducible repeat (first | apply Kd.R_alloc | apply Kd.R_drewN | apply Kd.R_drew)); exact Kd.R_mono HO_15.out (fun _ hk => ⟨trivial, hk⟩)) hg (.inl rfl)); have n2_ := Aside0.mk (blk_grown (g := gb134) (o := .cells #[.slice (some ad142) l0_0.length c0_0] 24 (0, 0)) (by (with_reducible repeat (first | refine blk_drewN ?_ _ | refine blk_drew ?_ | refine blk_alloc ?_ _)); exact BK134.out) hg (Kd.R_ne HO_3.out BK134.out (by decide))); have n3_ := Aside0.mk (blk_grown (g := gb143) (o := .cells #[.int .i64 ((rd_T38 l0_0 (rd t138 x17_1)).f0), .slice A142_1 ((rd_T38 l0_0 (rd t138 x17_1)).f1).length c142_1, .int .i64 ((rd_T38 l0_0 (rd t138 x17_1)).f2), .int .i64 ((rd_T38 l0_0 (rd t138 x17_1)).f3.f0), .int .i64 ((rd_T38 l0_0 (rd t138 x17_1)).f3.f1), .slice A142_5 ((rd_T38 l0_0 (rd t138 x17_1)).f3.f2).length c142_5, .int .i64 ((rd_T38 l0_0 (rd t138 x17_1)).f4), .int .i64 ((rd_T38 l0_0 (rd t138 x17_1)).f5.f0), .int .i64 ((rd_T38 l0_0 (rd t138 x17_1)).f5.f1), .int .i64 ((rd_T38 l0_0 (rd t138 x17_1)).f5.f2)] 38 (0, 0)) (by (with_reducible repeat (first | refine blk_drewN ?_ _ | refine blk_drew ?_ | refine blk_alloc ?_ _)); exact BK143.out) hg (Kd.R_ne HO_3.out BK143.out (by decide))); have n4_ := Aside0.mk ((by rw [hw]; exact below_set (HB.out) GB41.out : Below w.heap.size w w45)); clear HO_3; clear HO_15; clear BK134; clear BK143; clear HB; have HO_3 := n0_; have HO_15 := n1_; have BK134 := n2_; have BK143 := n3_; have HB := n4_; clear n0_ n1_ n2_ n3_ n4_; clear hg hw hp_))
                                      go_roundg k2
                                      case measure => have := HK1.out; have := HK2.out; omega
                                      case rel => exact ⟨(y147), (wrap64 (x17_1 + 1)), (by first | rfl | (simp; done) | (simp [*]; done)), H', ⟨by have := HK1.out; have := HK2.out; omega⟩, ⟨by (with_reducible repeat (first | apply Kd.R_alloc | apply Kd.R_drewN | apply Kd.R_drew)); exact HO_3.out⟩, ⟨by (with_reducible repeat (first | apply Kd.R_alloc | apply Kd.R_drewN | apply Kd.R_drew)); exact Kd.R_mono HO_15.out (fun _ hk => hk.2)⟩, ⟨by (with_reducible repeat (first | refine blk_drewN ?_ _ | refine blk_drew ?_ | refine blk_alloc ?_ _)); exact BK134.out⟩, ⟨by repeat (first | (with_reducible first | exact HB.out | apply below_alloc | apply pw_below_drewN | apply below_drew1 | refine below_set ?_ GE134.out | refine below_set ?_ GE143.out) | exact HB.out)⟩⟩
                                    · rw [if_neg c40] at H
                                      exact absurd H (by simp)
                                  · rw [if_neg c39] at H
                                    exact absurd H (by simp)
                              · rw [if_neg c36] at H
                                have c36b0 : (((rd_T38 l0_0 (rd t138 x17_1)).f5.f0) == 2) = false := beq_eq_false_iff_ne.mpr c36
                                have c36b1 : (((rd_T38 l0_0 (rd t138 x17_1)).f5.f0) != 2) = true := bne_iff_ne.mpr c36
                                obtain ⟨ji46, hji46⟩ : ∃ j_ : Int, (mn x7_2 65) = j_ := ⟨_, rfl⟩
                                replace H : (if 0 ≤ (rd t138 x17_1) then (if (rd t138 x17_1) < (x3_1.length : Int) then (job_weights.l0 k2 (x3_1.set ((rd t138 x17_1) : Int).toNat (ji46)) t138 (t138.length : Int) (wrap64 (x17_1 + 1)) l0_0) else (none)) else (none)) = some r := by first | (rw [hji46] at H; exact H) | (simp only [hji46] at H ⊢; exact H)
                                have hji46_ : (if 65 < x7_2 then 65 else x7_2) = ji46 := hji46
                                by_cases c47 : 0 ≤ (rd t138 x17_1)
                                · rw [if_pos c47] at H
                                  have c47b0 : decide (0 ≤ (rd t138 x17_1)) = true := decide_eq_true c47
                                  clear c47
                                  by_cases c48 : (rd t138 x17_1) < (x3_1.length : Int)
                                  · rw [if_pos c48] at H
                                    have c48b0 : decide ((rd t138 x17_1) < (x3_1.length : Int)) = true := decide_eq_true c48
                                    clear c48
                                    obtain ⟨y148, hy148⟩ : ∃ y_ : List Int, y_ = (x3_1.set ((rd t138 x17_1) : Int).toNat (ji46)) := ⟨_, rfl⟩
                                    replace H : (job_weights.l0 k2 y148 t138 (t138.length : Int) (wrap64 (x17_1 + 1)) l0_0) = some r := by first | (rw [hy148]; with_reducible exact H) | (have H2_ := (Option.bind_some _ _).symm.trans H; rw [hy148]; with_reducible exact H2_) | (have H2_ := (Option.bind_some _ _).symm.trans H; with_reducible exact H2_) | with_reducible exact H | (rw [hy148]; exact H) | exact H
                                    have Ny148 := Aside0.mk hy148
                                    clear hy148
                                    have H' := Aside0.mk H
                                    clear H
                                    have hnb50 := NB143_134.out
                                    have hnc50 := NB134_143.out
                                    have hcz51_0 : wr.cell? ⟨gb143, 0, none⟩ = some (.int .i64 ((rd_T38 l0_0 (rd t138 x17_1)).f0)) := (blk_cell BK143.out 0).trans rfl
                                    have hcz51_1 : wr.cell? ⟨gb143, 1, none⟩ = some (.slice A142_1 ((rd_T38 l0_0 (rd t138 x17_1)).f1).length c142_1) := (blk_cell BK143.out 1).trans rfl
                                    have hcz51_2 : wr.cell? ⟨gb143, 2, none⟩ = some (.int .i64 ((rd_T38 l0_0 (rd t138 x17_1)).f2)) := (blk_cell BK143.out 2).trans rfl
                                    have hcz51_3 : wr.cell? ⟨gb143, 3, none⟩ = some (.int .i64 ((rd_T38 l0_0 (rd t138 x17_1)).f3.f0)) := (blk_cell BK143.out 3).trans rfl
                                    have hcz51_4 : wr.cell? ⟨gb143, 4, none⟩ = some (.int .i64 ((rd_T38 l0_0 (rd t138 x17_1)).f3.f1)) := (blk_cell BK143.out 4).trans rfl
                                    have hcz51_5 : wr.cell? ⟨gb143, 5, none⟩ = some (.slice A142_5 ((rd_T38 l0_0 (rd t138 x17_1)).f3.f2).length c142_5) := (blk_cell BK143.out 5).trans rfl
                                    have hcz51_6 : wr.cell? ⟨gb143, 6, none⟩ = some (.int .i64 ((rd_T38 l0_0 (rd t138 x17_1)).f4)) := (blk_cell BK143.out 6).trans rfl
                                    have hcz51_7 : wr.cell? ⟨gb143, 7, none⟩ = some (.int .i64 ((rd_T38 l0_0 (rd t138 x17_1)).f5.f0)) := (blk_cell BK143.out 7).trans rfl
                                    have hcz51_8 : wr.cell? ⟨gb143, 8, none⟩ = some (.int .i64 ((rd_T38 l0_0 (rd t138 x17_1)).f5.f1)) := (blk_cell BK143.out 8).trans rfl
                                    have hcz51_9 : wr.cell? ⟨gb143, 9, none⟩ = some (.int .i64 ((rd_T38 l0_0 (rd t138 x17_1)).f5.f2)) := (blk_cell BK143.out 9).trans rfl
                                    have hfz51_0 := blk_frozen BK143.out 0
                                    have hfz51_1 := blk_frozen BK143.out 1
                                    have hfz51_2 := blk_frozen BK143.out 2
                                    have hfz51_3 := blk_frozen BK143.out 3
                                    have hfz51_4 := blk_frozen BK143.out 4
                                    have hfz51_5 := blk_frozen BK143.out 5
                                    have hfz51_6 := blk_frozen BK143.out 6
                                    have hfz51_7 := blk_frozen BK143.out 7
                                    have hfz51_8 := blk_frozen BK143.out 8
                                    have hfz51_9 := blk_frozen BK143.out 9
                                    have p49 : 0 ≤ ((rd t138 x17_1) : Int) := of_decide_eq_true (by first | (with_reducible assumption) | assumption)
                                    have q49 : ((rd t138 x17_1) : Int) < ((x3_1.length : Int) : Int) := of_decide_eq_true (by first | (with_reducible assumption) | assumption)
                                    obtain ⟨go49, co49, eo49, gb49, gl49, cl49, HG49⟩ := Kd.R_form HO_3.out (by omega)
                                    (first | cases eo49 | (injection eo49 with ea_ en_ ec_; (first | subst ea_ | (injection ea_ with ea_; subst ea_)); subst ec_; clear en_))
                                    have GB49 := Aside0.mk gb49
                                    have GG49 := Aside0.mk HG49
                                    clear gb49 gl49 HG49
                                    obtain ⟨hx49_0, hf49_0⟩ := Kd.R_celln 0 HO_3.out ((rd t138 x17_1) : Int) p49 q49
                                    replace p49 := eq_true p49
                                    replace q49 := eq_true q49
                                    have HP52 := Kd.R_putg HO_3.out ((rd t138 x17_1) : Int) ji46
                                    go_wp2_with (first | ((with_reducible refine gate_store (t := 3) (p := 72) rfl ?_); refine store_event (t := 3) (p := 72) (v := ?vo_w53) (w1 := (wr.setCell ⟨go49, ((rd t138 x17_1) : Int).toNat, none⟩ (.int .i64 ji46))) ?hg ?ho ?hn ?hr ?_; (case ho => rfl); (case hg => rfl); (case hn => rfl); (case hr => first | (go_simp; done) | (go_simp; rfl)); intro w53 hw; have hg : wr.grownBy w53 (some go49) := (by rw [hw]; exact HP52.2); have hp_ : Kd.R (Kd.int .i64) 3 w53 w.heap.size (fun k_ => some k_ ≠ (.slice (some ad141) t138.length co11 : Value).ownBlock) (.slice (some ⟨go49, 0, none⟩) x3_1.length co49) y148 := (by rw [hw, Ny148.out]; exact HP52.1); clear HP52; have n0_ := Aside0.mk (hp_); have n1_ := Aside0.mk (Kd.R_after (v := (.slice (some ⟨go49, 0, none⟩) x3_1.length co49)) (v1 := (.slice (some ⟨go49, 0, none⟩) x3_1.length co49)) (ok := (fun _ => True)) (by (with_reducible repeat (first | apply Kd.R_alloc | apply Kd.R_drewN | apply Kd.R_drew)); exact Kd.R_mono HO_15.out (fun _ hk => ⟨trivial, hk⟩)) hg (.inl rfl)); have n2_ := Aside0.mk (blk_grown (g := gb134) (o := .cells #[.slice (some ad142) l0_0.length c0_0] 24 (0, 0)) (by (with_reducible repeat (first | refine blk_drewN ?_ _ | refine blk_drew ?_ | refine blk_alloc ?_ _)); exact BK134.out) hg (Kd.R_ne HO_3.out BK134.out (by decide))); have n3_ := Aside0.mk (blk_grown (g := gb143) (o := .cells #[.int .i64 ((rd_T38 l0_0 (rd t138 x17_1)).f0), .slice A142_1 ((rd_T38 l0_0 (rd t138 x17_1)).f1).length c142_1, .int .i64 ((rd_T38 l0_0 (rd t138 x17_1)).f2), .int .i64 ((rd_T38 l0_0 (rd t138 x17_1)).f3.f0), .int .i64 ((rd_T38 l0_0 (rd t138 x17_1)).f3.f1), .slice A142_5 ((rd_T38 l0_0 (rd t138 x17_1)).f3.f2).length c142_5, .int .i64 ((rd_T38 l0_0 (rd t138 x17_1)).f4), .int .i64 ((rd_T38 l0_0 (rd t138 x17_1)).f5.f0), .int .i64 ((rd_T38 l0_0 (rd t138 x17_1)).f5.f1), .int .i64 ((rd_T38 l0_0 (rd t138 x17_1)).f5.f2)] 38 (0, 0)) (by (with_reducible repeat (first | refine blk_drewN ?_ _ | refine blk_drew ?_ | refine blk_alloc ?_ _)); exact BK143.out) hg (Kd.R_ne HO_3.out BK143.out (by decide))); have n4_ := Aside0.mk ((by rw [hw]; exact below_set (HB.out) GB49.out : Below w.heap.size w w53)); clear HO_3; clear HO_15; clear BK134; clear BK143; clear HB; have HO_3 := n0_; have HO_15 := n1_; have BK134 := n2_; have BK143 := n3_; have HB := n4_; clear n0_ n1_ n2_ n3_ n4_; clear hg hw hp_))
                                    go_roundg k2
                                    case measure => have := HK1.out; have := HK2.out; omega
                                    case rel => exact ⟨(y148), (wrap64 (x17_1 + 1)), (by first | rfl | (simp; done) | (simp [*]; done)), H', ⟨by have := HK1.out; have := HK2.out; omega⟩, ⟨by (with_reducible repeat (first | apply Kd.R_alloc | apply Kd.R_drewN | apply Kd.R_drew)); exact HO_3.out⟩, ⟨by (with_reducible repeat (first | apply Kd.R_alloc | apply Kd.R_drewN | apply Kd.R_drew)); exact Kd.R_mono HO_15.out (fun _ hk => hk.2)⟩, ⟨by (with_reducible repeat (first | refine blk_drewN ?_ _ | refine blk_drew ?_ | refine blk_alloc ?_ _)); exact BK134.out⟩, ⟨by repeat (first | (with_reducible first | exact HB.out | apply below_alloc | apply pw_below_drewN | apply below_drew1 | refine below_set ?_ GE134.out | refine below_set ?_ GE143.out) | exact HB.out)⟩⟩
                                  · rw [if_neg c48] at H
                                    exact absurd H (by simp)
                                · rw [if_neg c47] at H
                                  exact absurd H (by simp)
                            · rw [if_neg c35] at H
                              have c35b0 : (((rd_T38 l0_0 (rd t138 x17_1)).f0) == 7) = false := beq_eq_false_iff_ne.mpr c35
                              have c35b1 : (((rd_T38 l0_0 (rd t138 x17_1)).f0) != 7) = true := bne_iff_ne.mpr c35
                              obtain ⟨ji54, hji54⟩ : ∃ j_ : Int, (mn x7_2 65) = j_ := ⟨_, rfl⟩
                              replace H : (if 0 ≤ (rd t138 x17_1) then (if (rd t138 x17_1) < (x3_1.length : Int) then (job_weights.l0 k2 (x3_1.set ((rd t138 x17_1) : Int).toNat (ji54)) t138 (t138.length : Int) (wrap64 (x17_1 + 1)) l0_0) else (none)) else (none)) = some r := by first | (rw [hji54] at H; exact H) | (simp only [hji54] at H ⊢; exact H)
                              have hji54_ : (if 65 < x7_2 then 65 else x7_2) = ji54 := hji54
                              by_cases c55 : 0 ≤ (rd t138 x17_1)
                              · rw [if_pos c55] at H
                                have c55b0 : decide (0 ≤ (rd t138 x17_1)) = true := decide_eq_true c55
                                clear c55
                                by_cases c56 : (rd t138 x17_1) < (x3_1.length : Int)
                                · rw [if_pos c56] at H
                                  have c56b0 : decide ((rd t138 x17_1) < (x3_1.length : Int)) = true := decide_eq_true c56
                                  clear c56
                                  obtain ⟨y149, hy149⟩ : ∃ y_ : List Int, y_ = (x3_1.set ((rd t138 x17_1) : Int).toNat (ji54)) := ⟨_, rfl⟩
                                  replace H : (job_weights.l0 k2 y149 t138 (t138.length : Int) (wrap64 (x17_1 + 1)) l0_0) = some r := by first | (rw [hy149]; with_reducible exact H) | (have H2_ := (Option.bind_some _ _).symm.trans H; rw [hy149]; with_reducible exact H2_) | (have H2_ := (Option.bind_some _ _).symm.trans H; with_reducible exact H2_) | with_reducible exact H | (rw [hy149]; exact H) | exact H
                                  have Ny149 := Aside0.mk hy149
                                  clear hy149
                                  have H' := Aside0.mk H
                                  clear H
                                  have hnb58 := NB143_134.out
                                  have hnc58 := NB134_143.out
                                  have hcz59_0 : wr.cell? ⟨gb143, 0, none⟩ = some (.int .i64 ((rd_T38 l0_0 (rd t138 x17_1)).f0)) := (blk_cell BK143.out 0).trans rfl
                                  have hcz59_1 : wr.cell? ⟨gb143, 1, none⟩ = some (.slice A142_1 ((rd_T38 l0_0 (rd t138 x17_1)).f1).length c142_1) := (blk_cell BK143.out 1).trans rfl
                                  have hcz59_2 : wr.cell? ⟨gb143, 2, none⟩ = some (.int .i64 ((rd_T38 l0_0 (rd t138 x17_1)).f2)) := (blk_cell BK143.out 2).trans rfl
                                  have hcz59_3 : wr.cell? ⟨gb143, 3, none⟩ = some (.int .i64 ((rd_T38 l0_0 (rd t138 x17_1)).f3.f0)) := (blk_cell BK143.out 3).trans rfl
                                  have hcz59_4 : wr.cell? ⟨gb143, 4, none⟩ = some (.int .i64 ((rd_T38 l0_0 (rd t138 x17_1)).f3.f1)) := (blk_cell BK143.out 4).trans rfl
                                  have hcz59_5 : wr.cell? ⟨gb143, 5, none⟩ = some (.slice A142_5 ((rd_T38 l0_0 (rd t138 x17_1)).f3.f2).length c142_5) := (blk_cell BK143.out 5).trans rfl
                                  have hcz59_6 : wr.cell? ⟨gb143, 6, none⟩ = some (.int .i64 ((rd_T38 l0_0 (rd t138 x17_1)).f4)) := (blk_cell BK143.out 6).trans rfl
                                  have hcz59_7 : wr.cell? ⟨gb143, 7, none⟩ = some (.int .i64 ((rd_T38 l0_0 (rd t138 x17_1)).f5.f0)) := (blk_cell BK143.out 7).trans rfl
                                  have hcz59_8 : wr.cell? ⟨gb143, 8, none⟩ = some (.int .i64 ((rd_T38 l0_0 (rd t138 x17_1)).f5.f1)) := (blk_cell BK143.out 8).trans rfl
                                  have hcz59_9 : wr.cell? ⟨gb143, 9, none⟩ = some (.int .i64 ((rd_T38 l0_0 (rd t138 x17_1)).f5.f2)) := (blk_cell BK143.out 9).trans rfl
                                  have hfz59_0 := blk_frozen BK143.out 0
                                  have hfz59_1 := blk_frozen BK143.out 1
                                  have hfz59_2 := blk_frozen BK143.out 2
                                  have hfz59_3 := blk_frozen BK143.out 3
                                  have hfz59_4 := blk_frozen BK143.out 4
                                  have hfz59_5 := blk_frozen BK143.out 5
                                  have hfz59_6 := blk_frozen BK143.out 6
                                  have hfz59_7 := blk_frozen BK143.out 7
                                  have hfz59_8 := blk_frozen BK143.out 8
                                  have hfz59_9 := blk_frozen BK143.out 9
                                  have p57 : 0 ≤ ((rd t138 x17_1) : Int) := of_decide_eq_true (by first | (with_reducible assumption) | assumption)
                                  have q57 : ((rd t138 x17_1) : Int) < ((x3_1.length : Int) : Int) := of_decide_eq_true (by first | (with_reducible assumption) | assumption)
                                  obtain ⟨go57, co57, eo57, gb57, gl57, cl57, HG57⟩ := Kd.R_form HO_3.out (by omega)
                                  (first | cases eo57 | (injection eo57 with ea_ en_ ec_; (first | subst ea_ | (injection ea_ with ea_; subst ea_)); subst ec_; clear en_))
                                  have GB57 := Aside0.mk gb57
                                  have GG57 := Aside0.mk HG57
                                  clear gb57 gl57 HG57
                                  obtain ⟨hx57_0, hf57_0⟩ := Kd.R_celln 0 HO_3.out ((rd t138 x17_1) : Int) p57 q57
                                  replace p57 := eq_true p57
                                  replace q57 := eq_true q57
                                  have HP60 := Kd.R_putg HO_3.out ((rd t138 x17_1) : Int) ji54
                                  go_wp2_with (first | ((with_reducible refine gate_store (t := 3) (p := 72) rfl ?_); refine store_event (t := 3) (p := 72) (v := ?vo_w61) (w1 := (wr.setCell ⟨go57, ((rd t138 x17_1) : Int).toNat, none⟩ (.int .i64 ji54))) ?hg ?ho ?hn ?hr ?_; (case ho => rfl); (case hg => rfl); (case hn => rfl); (case hr => first | (go_simp; done) | (go_simp; rfl)); intro w61 hw; have hg : wr.grownBy w61 (some go57) := (by rw [hw]; exact HP60.2); have hp_ : Kd.R (Kd.int .i64) 3 w61 w.heap.size (fun k_ => some k_ ≠ (.slice (some ad141) t138.length co11 : Value).ownBlock) (.slice (some ⟨go57, 0, none⟩) x3_1.length co57) y149 := (by rw [hw, Ny149.out]; exact HP60.1); clear HP60; have n0_ := Aside0.mk (hp_); have n1_ := Aside0.mk (Kd.R_after (v := (.slice (some ⟨go57, 0, none⟩) x3_1.length co57)) (v1 := (.slice (some ⟨go57, 0, none⟩) x3_1.length co57)) (ok := (fun _ => True)) (by (with_reducible repeat (first | apply Kd.R_alloc | apply Kd.R_drewN | apply Kd.R_drew)); exact Kd.R_mono HO_15.out (fun _ hk => ⟨trivial, hk⟩)) hg (.inl rfl)); have n2_ := Aside0.mk (blk_grown (g := gb134) (o := .cells #[.slice (some ad142) l0_0.length c0_0] 24 (0, 0)) (by (with_reducible repeat (first | refine blk_drewN ?_ _ | refine blk_drew ?_ | refine blk_alloc ?_ _)); exact BK134.out) hg (Kd.R_ne HO_3.out BK134.out (by decide))); have n3_ := Aside0.mk (blk_grown (g := gb143) (o := .cells #[.int .i64 ((rd_T38 l0_0 (rd t138 x17_1)).f0), .slice A142_1 ((rd_T38 l0_0 (rd t138 x17_1)).f1).length c142_1, .int .i64 ((rd_T38 l0_0 (rd t138 x17_1)).f2), .int .i64 ((rd_T38 l0_0 (rd t138 x17_1)).f3.f0), .int .i64 ((rd_T38 l0_0 (rd t138 x17_1)).f3.f1), .slice A142_5 ((rd_T38 l0_0 (rd t138 x17_1)).f3.f2).length c142_5, .int .i64 ((rd_T38 l0_0 (rd t138 x17_1)).f4), .int .i64 ((rd_T38 l0_0 (rd t138 x17_1)).f5.f0), .int .i64 ((rd_T38 l0_0 (rd t138 x17_1)).f5.f1), .int .i64 ((rd_T38 l0_0 (rd t138 x17_1)).f5.f2)] 38 (0, 0)) (by (with_reducible repeat (first | refine blk_drewN ?_ _ | refine blk_drew ?_ | refine blk_alloc ?_ _)); exact BK143.out) hg (Kd.R_ne HO_3.out BK143.out (by decide))); have n4_ := Aside0.mk ((by rw [hw]; exact below_set (HB.out) GB57.out : Below w.heap.size w w61)); clear HO_3; clear HO_15; clear BK134; clear BK143; clear HB; have HO_3 := n0_; have HO_15 := n1_; have BK134 := n2_; have BK143 := n3_; have HB := n4_; clear n0_ n1_ n2_ n3_ n4_; clear hg hw hp_))
                                  go_roundg k2
                                  case measure => have := HK1.out; have := HK2.out; omega
                                  case rel => exact ⟨(y149), (wrap64 (x17_1 + 1)), (by first | rfl | (simp; done) | (simp [*]; done)), H', ⟨by have := HK1.out; have := HK2.out; omega⟩, ⟨by (with_reducible repeat (first | apply Kd.R_alloc | apply Kd.R_drewN | apply Kd.R_drew)); exact HO_3.out⟩, ⟨by (with_reducible repeat (first | apply Kd.R_alloc | apply Kd.R_drewN | apply Kd.R_drew)); exact Kd.R_mono HO_15.out (fun _ hk => hk.2)⟩, ⟨by (with_reducible repeat (first | refine blk_drewN ?_ _ | refine blk_drew ?_ | refine blk_alloc ?_ _)); exact BK134.out⟩, ⟨by repeat (first | (with_reducible first | exact HB.out | apply below_alloc | apply pw_below_drewN | apply below_drew1 | refine below_set ?_ GE134.out | refine below_set ?_ GE143.out) | exact HB.out)⟩⟩
                                · rw [if_neg c56] at H
                                  exact absurd H (by simp)
                              · rw [if_neg c55] at H
                                exact absurd H (by simp)
                  · rw [if_neg c16] at H
                    exact absurd H (by simp)
                · rw [if_neg c15] at H
                  exact absurd H (by simp)
              · rw [if_neg c14] at H
                exact absurd H (by simp)
            · rw [if_neg c13] at H
              exact absurd H (by simp)
          · rw [if_neg c12] at H
            have c12b0 : decide (x17_1 < (t138.length : Int)) = false := decide_eq_false c12
            clear c12
            obtain rfl := Option.some.inj H
            go_wp2
            go_ret
            exact ⟨_, by first | rfl | (simp [errW_none, errW_some] <;> rfl) | (simp [*, errW_none, errW_some] <;> rfl), by (with_reducible repeat (first | apply Kd.R_alloc | apply Kd.R_drewN | apply Kd.R_drew)); exact Kd.R_mono HO_3.out (fun _ hk => trivial), by repeat (first | (with_reducible first | exact HB.out | apply below_alloc | apply pw_below_drewN | apply below_drew1 | refine below_set ?_ GE134.out) | exact HB.out)⟩
    · rw [if_neg c3] at H
      exact absurd H (by simp)
  · rw [if_neg c2] at H
    exact absurd H (by simp)

end Go.Proofs.Ytpbmfdbfimcpjaa.X
