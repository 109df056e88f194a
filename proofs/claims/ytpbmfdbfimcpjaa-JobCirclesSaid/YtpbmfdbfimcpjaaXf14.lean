-- written by wip/myprint.py out of the translation
import Derived.Test.YtpbmfdbfimcpjaaXt
import Derived.Test.YtpbmfdbfimcpjaaB
namespace Go.Proofs.Ytpbmfdbfimcpjaa.X
open Go.RowKit Go.Proofs.YtpbmfdbfimcpjaaW.PrintWords Go.Proofs.YtpbmfdbfimcpjaaW.PrintLast Go.Proofs.YtpbmfdbfimcpjaaW.PrintMore
attribute [local go_sem] max2_int min2_int max_two min_two max_three min_three max_four min_four   -- for this text's walks alone
set_option linter.unusedVariables false
set_option linter.unusedSimpArgs false

/-! ### job_Logs: function 14 -/
mutual
def job_Logs.l0 : Nat → List (List (List (S47))) → Int → Int → List (S38) → Option (Int)
  | 0, _, _, _, _ => none
  | k + 1, x16, x17, x18, x165000 => if x18 < x17 then (if 0 ≤ x18 then (if x18 < (x16.length : Int) then (if x18 < (x165000.length : Int) then (if ((rd_T38 x165000 x18).f0) = 1 then (job_Logs.j1 k (rd_L8 x16 x18) ((rd_T38 x165000 x18).f2) x16 x17 x18 x165000) else (job_Logs.j1 k (rd_L8 x16 x18) 0 x16 x17 x18 x165000)) else (none)) else (none)) else (none)) else (some 0)
def job_Logs.j1 : Nat → List (List (S47)) → Int → List (List (List (S47))) → Int → Int → List (S38) → Option (Int)
  | 0, _, _, _, _, _, _ => none
  | k + 1, x6, x7, x16, x17, x18, x165000 => if (x6.length : Int) = x7 then (job_Logs.l1 k x16 x17 x18 x6 (x6.length : Int) 0 x165000) else (some 89)
def job_Logs.l1 : Nat → List (List (List (S47))) → Int → Int → List (List (S47)) → Int → Int → List (S38) → Option (Int)
  | 0, _, _, _, _, _, _, _ => none
  | k + 1, x16, x17, x18, x40, x41, x42, x165000 => if x42 < x41 then (if 0 ≤ x42 then (if x42 < (x40.length : Int) then (if ((rd_L7 x40 x42).length : Int) > 4096 then (some 89) else ((api_Item__job_Logs_1.f (rd_L7 x40 x42) ()).bind fun t169 => (if t169 = true then (some 89) else (job_Logs.l1 k x16 x17 x18 x40 x41 (wrap64 (x42 + 1)) x165000)))) else (none)) else (none)) else (job_Logs.l0 k x16 x17 (wrap64 (x18 + 1)) x165000)
end
def job_Logs.f (k : Nat) (l0_0 : List (S38)) (l1 : List (List (List (S47)))) : Option (Int) := if (l1.length : Int) = (l0_0.length : Int) then (job_Logs.l0 k l1 (l1.length : Int) 0 l0_0) else (some 89)
theorem job_Logs.mono_l : ∀ k, (∀ y0 y1 y2 y3, LeO (job_Logs.l0 k y0 y1 y2 y3) (job_Logs.l0 (k + 1) y0 y1 y2 y3)) ∧ (∀ y0 y1 y2 y3 y4 y5, LeO (job_Logs.j1 k y0 y1 y2 y3 y4 y5) (job_Logs.j1 (k + 1) y0 y1 y2 y3 y4 y5)) ∧ (∀ y0 y1 y2 y3 y4 y5 y6, LeO (job_Logs.l1 k y0 y1 y2 y3 y4 y5 y6) (job_Logs.l1 (k + 1) y0 y1 y2 y3 y4 y5 y6))
  | 0 => ⟨fun _ _ _ _ r h => by simp [job_Logs.l0] at h, fun _ _ _ _ _ _ r h => by simp [job_Logs.j1] at h, fun _ _ _ _ _ _ _ r h => by simp [job_Logs.l1] at h⟩
  | k + 1 => by
    obtain ⟨ih0, ih1, ih2⟩ := job_Logs.mono_l k
    refine ⟨?_, ?_, ?_⟩
    · intro y0 y1 y2 y3
      unfold job_Logs.l0
      repeat' first
      | (with_reducible exact ih0 _ _ _ _)
      | (with_reducible exact ih1 _ _ _ _ _ _)
      | (with_reducible exact ih2 _ _ _ _ _ _ _)
      | (with_reducible exact LeO.refl _)
      | (with_reducible exact LeO.none _)
      | (with_reducible refine LeO.ite ?_ ?_)
      | (with_reducible refine LeO.bind ?_ (fun _ => ?_))
      | exact ih0 _ _ _ _
      | exact ih1 _ _ _ _ _ _
      | exact ih2 _ _ _ _ _ _ _
      | exact LeO.none _
      | refine LeO.ite ?_ ?_
      | refine LeO.bind ?_ (fun _ => ?_)
    · intro y0 y1 y2 y3 y4 y5
      unfold job_Logs.j1
      repeat' first
      | (with_reducible exact ih0 _ _ _ _)
      | (with_reducible exact ih1 _ _ _ _ _ _)
      | (with_reducible exact ih2 _ _ _ _ _ _ _)
      | (with_reducible exact LeO.refl _)
      | (with_reducible exact LeO.none _)
      | (with_reducible refine LeO.ite ?_ ?_)
      | (with_reducible refine LeO.bind ?_ (fun _ => ?_))
      | exact ih0 _ _ _ _
      | exact ih1 _ _ _ _ _ _
      | exact ih2 _ _ _ _ _ _ _
      | exact LeO.none _
      | refine LeO.ite ?_ ?_
      | refine LeO.bind ?_ (fun _ => ?_)
    · intro y0 y1 y2 y3 y4 y5 y6
      unfold job_Logs.l1
      repeat' first
      | (with_reducible exact ih0 _ _ _ _)
      | (with_reducible exact ih1 _ _ _ _ _ _)
      | (with_reducible exact ih2 _ _ _ _ _ _ _)
      | (with_reducible exact LeO.refl _)
      | (with_reducible exact LeO.none _)
      | (with_reducible refine LeO.ite ?_ ?_)
      | (with_reducible refine LeO.bind ?_ (fun _ => ?_))
      | exact ih0 _ _ _ _
      | exact ih1 _ _ _ _ _ _
      | exact ih2 _ _ _ _ _ _ _
      | exact LeO.none _
      | refine LeO.ite ?_ ?_
      | refine LeO.bind ?_ (fun _ => ?_)
theorem job_Logs.mono : ∀ a0 a1 k, LeO (job_Logs.f k a0 a1) (job_Logs.f (k + 1) a0 a1) := by
  intro a0 a1 k
  obtain ⟨ih0, ih1, ih2⟩ := job_Logs.mono_l k
  unfold job_Logs.f
  repeat' first
      | (with_reducible exact ih0 _ _ _ _)
      | (with_reducible exact ih1 _ _ _ _ _ _)
      | (with_reducible exact ih2 _ _ _ _ _ _ _)
      | (with_reducible exact LeO.refl _)
      | (with_reducible exact LeO.none _)
      | (with_reducible refine LeO.ite ?_ ?_)
      | (with_reducible refine LeO.bind ?_ (fun _ => ?_))
      | exact ih0 _ _ _ _
      | exact ih1 _ _ _ _ _ _
      | exact ih2 _ _ _ _ _ _ _
      | exact LeO.none _
      | refine LeO.ite ?_ ?_
      | refine LeO.bind ?_ (fun _ => ?_)
set_option maxHeartbeats 8000000 in
set_option maxRecDepth 100000 in
theorem job_Logs.calls (k : Nat) (A0_0 : Option Addr) (c0_0 : Nat) (l0_0 : List (S38)) (A1 : Option Addr) (c1 : Nat) (l1 : List (List (List (S47)))) (r : Int) (w : World) (hr0_0 : Kd.C k38 w A0_0 l0_0.length l0_0) (hc0_0 : l0_0.length ≤ c0_0) (hr1 : Kd.C (Kd.slice 48 (Kd.slice 47 k47)) w A1 l1.length l1) (hc1 : l1.length ≤ c1) (h : job_Logs.f k l0_0 l1 = some r) :
    Calls Try.prog 14 #[.agg #[.slice A0_0 l0_0.length c0_0], .slice A1 l1.length c1] w fun e w' => e = .returned (.int .i64 r) ∧ Below w.heap.size w w' := by
  have hu24 := Try.underlying24
  have HR0_0 := Aside0.mk hr0_0
  have HC0_0 := Aside0.mk hc0_0
  clear hr0_0 hc0_0
  have HR1 := Aside0.mk hr1
  have HC1 := Aside0.mk hc1
  clear hr1 hc1
  have HB := Aside0.mk (Below.refl w.heap.size w)
  have H : (if (l1.length : Int) = (l0_0.length : Int) then (job_Logs.l0 k l1 (l1.length : Int) 0 l0_0) else (some 89)) = some r := h
  clear h
  by_cases c3 : (l1.length : Int) = (l0_0.length : Int)
  · rw [if_pos c3] at H
    have c3b0 : ((l1.length : Int) == (l0_0.length : Int)) = true := beq_iff_eq.mpr c3
    have c3b1 : ((l1.length : Int) != (l0_0.length : Int)) = false := bne_eq_false_iff_eq.mpr c3
    have c3b2 : (l1.length == l0_0.length) = true := by first | simpa using c3 | (simp at c3 ⊢; omega)
    clear c3
    have H' := Aside0.mk H
    clear H
    go_enter Try.func14, Try.ntmps14
    go_wp2_with (first | ((with_reducible refine gate_dst (N := 2) rfl ?_); refine box_event ?hg (N := 2) ?hd (cs := #[.slice A0_0 l0_0.length c0_0]) (t := 24) ?hr ?_; (case hd => rfl); (case hg => rfl); (case hr => first | (go_simp; done) | (go_simp; rfl)); intro gb164 hg w4 hbox hb; have n0_ := Aside0.mk (below_step (by repeat (first | (with_reducible first | exact HB.out | apply below_alloc | apply pw_below_drewN | apply below_drew1) | exact HB.out)) hb); have n1_ := Aside0.mk (hbox); have n2_ := Aside0.mk ((by rw [hg]; exact (below_size (by repeat (first | (with_reducible first | exact HB.out | apply below_alloc | apply pw_below_drewN | apply below_drew1) | exact HB.out))) : w.heap.size ≤ gb164)); have n3_ := Aside0.mk ((by rw [hg]; exact (below_size (by repeat (first | (with_reducible first | exact HB.out | apply below_alloc | apply pw_below_drewN | apply below_drew1) | exact HB.out))) : w.heap.size ≤ gb164)); clear HB; have HB := n0_; have BK164 := n1_; have GW164 := n2_; have GE164 := n3_; clear n0_ n1_ n2_ n3_; clear hb hbox hg; have hcz5_0 : w4.cell? ⟨gb164, 0, none⟩ = some (.slice A0_0 l0_0.length c0_0) := (blk_cell BK164.out 0).trans rfl; have hfz5_0 := blk_frozen BK164.out 0))
    go_loopg [18] k (fun kq v18 w' => ∃ (x18_1 : Int), v18 = .int .i64 x18_1 ∧ Aside0 (job_Logs.l0 kq l1 (l1.length : Int) x18_1 l0_0 = some r) ∧ Aside0 (kq ≤ k) ∧ Aside0 (w'.heap[gb164]? = some (.cells #[(.slice A0_0 l0_0.length c0_0)] 24 (0, 0))) ∧ Aside0 (Below w.heap.size w w'))
    case atStart => exact ⟨(0), (by first | rfl | (simp; done) | (simp [*]; done)), H', ⟨Nat.le_refl _⟩, ⟨by (with_reducible repeat (first | refine blk_drewN ?_ _ | refine blk_drew ?_ | refine blk_alloc ?_ _)); exact BK164.out⟩, ⟨by repeat (first | (with_reducible first | exact HB.out | apply below_alloc | apply pw_below_drewN | apply below_drew1 | refine below_set ?_ GE164.out) | exact HB.out)⟩⟩
    case round =>
      clear H'
      try clear c1
      try clear p2
      try clear c3
      try clear c3b0
      try clear c3b1
      try clear c3b2
      try clear hcz5_0
      try clear hfz5_0
      obtain ⟨x18_1, rfl, HA, HK1, BK164, HB⟩ := hrel
      cases gk with
      | zero => exact absurd HA.out (by simp [job_Logs.l0])
      | succ k1 =>
        have H := HA.out
        clear HA
        simp only [job_Logs.l0] at H
        by_cases c6 : x18_1 < (l1.length : Int)
        · rw [if_pos c6] at H
          have c6b0 : decide (x18_1 < (l1.length : Int)) = true := decide_eq_true c6
          clear c6
          by_cases c7 : 0 ≤ x18_1
          · rw [if_pos c7] at H
            have c7b0 : decide (0 ≤ x18_1) = true := decide_eq_true c7
            clear c7
            by_cases c8 : x18_1 < (l1.length : Int)
            · rw [if_pos c8] at H
              have c8b0 : decide (x18_1 < (l1.length : Int)) = true := decide_eq_true c8
              clear c8
              by_cases c9 : x18_1 < (l0_0.length : Int)
              · rw [if_pos c9] at H
                have c9b0 : decide (x18_1 < (l0_0.length : Int)) = true := decide_eq_true c9
                clear c9
                have HC10 := Aside0.mk H
                clear H
                have p165 : 0 ≤ (x18_1 : Int) := of_decide_eq_true (by first | (with_reducible assumption) | assumption)
                have q165 : x18_1 < (l1.length : Int) := of_decide_eq_true (by first | (with_reducible assumption) | assumption)
                obtain ⟨ad165, A165_0, c165_0, e165, hx165_0, hl165_0, hi165_0⟩ := at_L8 HR1.out x18_1 p165 q165
                cases e165
                replace hx165_0 := (HB.out.cell (World.block_lt_of_cell? w _ hx165_0)).trans hx165_0
                have HR165_0 := Aside0.mk hi165_0
                have HC165_0 := Aside0.mk hl165_0
                clear hi165_0 hl165_0
                replace p165 := eq_true p165
                replace q165 := eq_true q165
                have hcz11_0 : wr.cell? ⟨gb164, 0, none⟩ = some (.slice A0_0 l0_0.length c0_0) := (blk_cell BK164.out 0).trans rfl
                have hfz11_0 := blk_frozen BK164.out 0
                have p166 : 0 ≤ (x18_1 : Int) := of_decide_eq_true (by first | (with_reducible assumption) | assumption)
                have q166 : x18_1 < (l0_0.length : Int) := of_decide_eq_true (by first | (with_reducible assumption) | assumption)
                obtain ⟨ad166, A166_1, c166_1, A166_5, c166_5, e166, hx166_0, hx166_1, hx166_2, hx166_3, hx166_4, hx166_5, hx166_6, hx166_7, hx166_8, hx166_9, hl166_1, hi166_1, hl166_5, hi166_5⟩ := at_T38 HR0_0.out x18_1 p166 q166
                cases e166
                replace hx166_0 := (HB.out.cell (World.block_lt_of_cell? w _ hx166_0)).trans hx166_0
                replace hx166_1 := (HB.out.cell (World.block_lt_of_cell? w _ hx166_1)).trans hx166_1
                replace hx166_2 := (HB.out.cell (World.block_lt_of_cell? w _ hx166_2)).trans hx166_2
                replace hx166_3 := (HB.out.cell (World.block_lt_of_cell? w _ hx166_3)).trans hx166_3
                replace hx166_4 := (HB.out.cell (World.block_lt_of_cell? w _ hx166_4)).trans hx166_4
                replace hx166_5 := (HB.out.cell (World.block_lt_of_cell? w _ hx166_5)).trans hx166_5
                replace hx166_6 := (HB.out.cell (World.block_lt_of_cell? w _ hx166_6)).trans hx166_6
                replace hx166_7 := (HB.out.cell (World.block_lt_of_cell? w _ hx166_7)).trans hx166_7
                replace hx166_8 := (HB.out.cell (World.block_lt_of_cell? w _ hx166_8)).trans hx166_8
                replace hx166_9 := (HB.out.cell (World.block_lt_of_cell? w _ hx166_9)).trans hx166_9
                have HR166_1 := Aside0.mk hi166_1
                have HC166_1 := Aside0.mk hl166_1
                clear hi166_1 hl166_1
                have HR166_5 := Aside0.mk hi166_5
                have HC166_5 := Aside0.mk hl166_5
                clear hi166_5 hl166_5
                replace p166 := eq_true p166
                replace q166 := eq_true q166
                go_upto_if 29 with (fail)
                go_cut [7] (fun v7 wc => ∃ (kq : Nat) (x7_9 : Int), v7 = .int .i64 x7_9 ∧ Aside0 (job_Logs.j1 kq (rd_L8 l1 x18_1) x7_9 l1 (l1.length : Int) x18_1 l0_0 = some r) ∧ Aside0 (kq ≤ k1) ∧ Aside0 (wc.heap[gb164]? = some (.cells #[(.slice (some ad166) l0_0.length c0_0)] 24 (0, 0))) ∧ Aside0 (Below w.heap.size w wc))
                case first =>
                  have H := HC10.out
                  clear HC10
                  by_cases c12 : ((rd_T38 l0_0 x18_1).f0) = 1
                  · rw [if_pos c12] at H
                    have c12b0 : (((rd_T38 l0_0 x18_1).f0) == 1) = true := beq_iff_eq.mpr c12
                    have c12b1 : (((rd_T38 l0_0 x18_1).f0) != 1) = false := bne_eq_false_iff_eq.mpr c12
                    clear c12
                    (first | rw [c12b0] | (simp only [i64_w, i32_w]; rw [c12b0]) | skip)
                    have H' := Aside0.mk H
                    clear H
                    have hcz13_0 : wr.cell? ⟨gb164, 0, none⟩ = some (.slice (some ad166) l0_0.length c0_0) := (blk_cell BK164.out 0).trans rfl
                    have hfz13_0 := blk_frozen BK164.out 0
                    have p167 : 0 ≤ (x18_1 : Int) := of_decide_eq_true (by first | (with_reducible assumption) | assumption)
                    have q167 : x18_1 < (l0_0.length : Int) := of_decide_eq_true (by first | (with_reducible assumption) | assumption)
                    obtain ⟨ad167, A167_1, c167_1, A167_5, c167_5, e167, hx167_0, hx167_1, hx167_2, hx167_3, hx167_4, hx167_5, hx167_6, hx167_7, hx167_8, hx167_9, hl167_1, hi167_1, hl167_5, hi167_5⟩ := at_T38 HR0_0.out x18_1 p167 q167
                    obtain rfl : ad166 = ad167 := (by injection e167)
                    replace hx167_0 := (HB.out.cell (World.block_lt_of_cell? w _ hx167_0)).trans hx167_0
                    replace hx167_1 := (HB.out.cell (World.block_lt_of_cell? w _ hx167_1)).trans hx167_1
                    replace hx167_2 := (HB.out.cell (World.block_lt_of_cell? w _ hx167_2)).trans hx167_2
                    replace hx167_3 := (HB.out.cell (World.block_lt_of_cell? w _ hx167_3)).trans hx167_3
                    replace hx167_4 := (HB.out.cell (World.block_lt_of_cell? w _ hx167_4)).trans hx167_4
                    replace hx167_5 := (HB.out.cell (World.block_lt_of_cell? w _ hx167_5)).trans hx167_5
                    replace hx167_6 := (HB.out.cell (World.block_lt_of_cell? w _ hx167_6)).trans hx167_6
                    replace hx167_7 := (HB.out.cell (World.block_lt_of_cell? w _ hx167_7)).trans hx167_7
                    replace hx167_8 := (HB.out.cell (World.block_lt_of_cell? w _ hx167_8)).trans hx167_8
                    replace hx167_9 := (HB.out.cell (World.block_lt_of_cell? w _ hx167_9)).trans hx167_9
                    have HR167_1 := Aside0.mk hi167_1
                    have HC167_1 := Aside0.mk hl167_1
                    clear hi167_1 hl167_1
                    have HR167_5 := Aside0.mk hi167_5
                    have HC167_5 := Aside0.mk hl167_5
                    clear hi167_5 hl167_5
                    replace p167 := eq_true p167
                    replace q167 := eq_true q167
                    go_wp2
                    go_meet
                    case rel => exact ⟨_, ((rd_T38 l0_0 x18_1).f2), (by first | rfl | (simp; done) | (simp [*]; done)), H', ⟨by have := HK1.out; first | omega | exact Nat.le_refl _⟩, ⟨by (with_reducible repeat (first | refine blk_drewN ?_ _ | refine blk_drew ?_ | refine blk_alloc ?_ _)); exact BK164.out⟩, ⟨by repeat (first | (with_reducible first | exact HB.out | apply below_alloc | apply pw_below_drewN | apply below_drew1 | refine below_set ?_ GE164.out) | exact HB.out)⟩⟩
                  · rw [if_neg c12] at H
                    have c12b0 : (((rd_T38 l0_0 x18_1).f0) == 1) = false := beq_eq_false_iff_ne.mpr c12
                    have c12b1 : (((rd_T38 l0_0 x18_1).f0) != 1) = true := bne_iff_ne.mpr c12
                    (first | rw [c12b0] | (simp only [i64_w, i32_w]; rw [c12b0]) | skip)
                    have H' := Aside0.mk H
                    clear H
                    go_wp2
                    go_meet
                    case rel => exact ⟨_, (0), (by first | rfl | (simp; done) | (simp [*]; done)), H', ⟨by have := HK1.out; first | omega | exact Nat.le_refl _⟩, ⟨by (with_reducible repeat (first | refine blk_drewN ?_ _ | refine blk_drew ?_ | refine blk_alloc ?_ _)); exact BK164.out⟩, ⟨by repeat (first | (with_reducible first | exact HB.out | apply below_alloc | apply pw_below_drewN | apply below_drew1 | refine below_set ?_ GE164.out) | exact HB.out)⟩⟩
                case rest =>
                  clear HC10
                  try clear c1
                  try clear p1
                  try clear q1
                  try clear hx1
                  try clear p2
                  try clear c3
                  try clear c3b0
                  try clear c3b1
                  try clear c3b2
                  try clear c6
                  try clear c6b0
                  try clear c7
                  try clear c7b0
                  try clear c8
                  try clear c8b0
                  try clear c9
                  try clear c9b0
                  try clear c12
                  try clear c12b0
                  try clear c12b1
                  try clear hcz11_0
                  try clear hcz13_0
                  try clear hcz5_0
                  try clear hfz11_0
                  try clear hfz13_0
                  try clear hfz5_0
                  try clear hx165_0
                  try clear hx166_0
                  try clear hx166_1
                  try clear hx166_2
                  try clear hx166_3
                  try clear hx166_4
                  try clear hx166_5
                  try clear hx166_6
                  try clear hx166_7
                  try clear hx166_8
                  try clear hx166_9
                  try clear hx167_0
                  try clear hx167_1
                  try clear hx167_2
                  try clear hx167_3
                  try clear hx167_4
                  try clear hx167_5
                  try clear hx167_6
                  try clear hx167_7
                  try clear hx167_8
                  try clear hx167_9
                  try clear p165
                  try clear p166
                  try clear p167
                  try clear p2
                  try clear q165
                  try clear q166
                  try clear q167
                  obtain ⟨kq, x7_9, rfl, HA, HJ9, BK164, HB⟩ := hcut
                  cases kq with
                  | zero => exact absurd HA.out (by simp [job_Logs.j1])
                  | succ kj9 =>
                    have H := HA.out
                    clear HA
                    simp only [job_Logs.j1] at H
                    by_cases c14 : ((rd_L8 l1 x18_1).length : Int) = x7_9
                    · rw [if_pos c14] at H
                      have c14b0 : (((rd_L8 l1 x18_1).length : Int) == x7_9) = true := beq_iff_eq.mpr c14
                      have c14b1 : (((rd_L8 l1 x18_1).length : Int) != x7_9) = false := bne_eq_false_iff_eq.mpr c14
                      clear c14
                      have H' := Aside0.mk H
                      clear H
                      go_wp2
                      go_loopg [42] kj9 (fun kq v42 w' => ∃ (x42_3 : Int), v42 = .int .i64 x42_3 ∧ Aside0 (job_Logs.l1 kq l1 (l1.length : Int) x18_1 (rd_L8 l1 x18_1) ((rd_L8 l1 x18_1).length : Int) x42_3 l0_0 = some r) ∧ Aside0 (kq ≤ kj9) ∧ Aside0 (w'.heap[gb164]? = some (.cells #[(.slice (some ad166) l0_0.length c0_0)] 24 (0, 0))) ∧ Aside0 (Below w.heap.size w w'))
                      case atStart => exact ⟨(0), (by first | rfl | (simp; done) | (simp [*]; done)), H', ⟨Nat.le_refl _⟩, ⟨by (with_reducible repeat (first | refine blk_drewN ?_ _ | refine blk_drew ?_ | refine blk_alloc ?_ _)); exact BK164.out⟩, ⟨by repeat (first | (with_reducible first | exact HB.out | apply below_alloc | apply pw_below_drewN | apply below_drew1 | refine below_set ?_ GE164.out) | exact HB.out)⟩⟩
                      case round =>
                        clear H'
                        try clear c1
                        try clear p1
                        try clear q1
                        try clear hx1
                        try clear p2
                        try clear c3
                        try clear c3b0
                        try clear c3b1
                        try clear c3b2
                        try clear c6
                        try clear c6b0
                        try clear c7
                        try clear c7b0
                        try clear c8
                        try clear c8b0
                        try clear c9
                        try clear c9b0
                        try clear c12
                        try clear c12b0
                        try clear c12b1
                        try clear c14
                        try clear c14b0
                        try clear c14b1
                        try clear hcz11_0
                        try clear hcz13_0
                        try clear hcz5_0
                        try clear hfz11_0
                        try clear hfz13_0
                        try clear hfz5_0
                        try clear hx165_0
                        try clear hx166_0
                        try clear hx166_1
                        try clear hx166_2
                        try clear hx166_3
                        try clear hx166_4
                        try clear hx166_5
                        try clear hx166_6
                        try clear hx166_7
                        try clear hx166_8
                        try clear hx166_9
                        try clear hx167_0
                        try clear hx167_1
                        try clear hx167_2
                        try clear hx167_3
                        try clear hx167_4
                        try clear hx167_5
                        try clear hx167_6
                        try clear hx167_7
                        try clear hx167_8
                        try clear hx167_9
                        try clear p1
                        try clear p165
                        try clear p166
                        try clear p167
                        try clear p2
                        try clear q1
                        try clear q165
                        try clear q166
                        try clear q167
                        obtain ⟨x42_3, rfl, HA, HK3, BK164, HB⟩ := hrel
                        cases gk with
                        | zero => exact absurd HA.out (by simp [job_Logs.l1])
                        | succ k3 =>
                          have H := HA.out
                          clear HA
                          simp only [job_Logs.l1] at H
                          by_cases c15 : x42_3 < ((rd_L8 l1 x18_1).length : Int)
                          · rw [if_pos c15] at H
                            have c15b0 : decide (x42_3 < ((rd_L8 l1 x18_1).length : Int)) = true := decide_eq_true c15
                            clear c15
                            by_cases c16 : 0 ≤ x42_3
                            · rw [if_pos c16] at H
                              have c16b0 : decide (0 ≤ x42_3) = true := decide_eq_true c16
                              clear c16
                              by_cases c17 : x42_3 < ((rd_L8 l1 x18_1).length : Int)
                              · rw [if_pos c17] at H
                                have c17b0 : decide (x42_3 < ((rd_L8 l1 x18_1).length : Int)) = true := decide_eq_true c17
                                clear c17
                                by_cases c18 : ((rd_L7 (rd_L8 l1 x18_1) x42_3).length : Int) > 4096
                                · rw [if_pos c18] at H
                                  have c18b0 : decide (4096 < ((rd_L7 (rd_L8 l1 x18_1) x42_3).length : Int)) = true := decide_eq_true c18
                                  have c18b1 : decide (4096 < (rd_L7 (rd_L8 l1 x18_1) x42_3).length) = true := decide_eq_true (by omega)
                                  clear c18
                                  obtain rfl := Option.some.inj H
                                  have p168 : 0 ≤ (x42_3 : Int) := of_decide_eq_true (by first | (with_reducible assumption) | assumption)
                                  have q168 : x42_3 < ((rd_L8 l1 x18_1).length : Int) := of_decide_eq_true (by first | (with_reducible assumption) | assumption)
                                  obtain ⟨ad168, A168_0, c168_0, e168, hx168_0, hl168_0, hi168_0⟩ := at_L7 HR165_0.out x42_3 p168 q168
                                  cases e168
                                  replace hx168_0 := (HB.out.cell (World.block_lt_of_cell? w _ hx168_0)).trans hx168_0
                                  have HR168_0 := Aside0.mk hi168_0
                                  have HC168_0 := Aside0.mk hl168_0
                                  clear hi168_0 hl168_0
                                  replace p168 := eq_true p168
                                  replace q168 := eq_true q168
                                  go_wp2
                                  go_ret
                                  exact ⟨by first | rfl | (simp [errW_none, errW_some] <;> rfl) | (simp [*, errW_none, errW_some] <;> rfl), by repeat (first | (with_reducible first | exact HB.out | apply below_alloc | apply pw_below_drewN | apply below_drew1 | refine below_set ?_ GE164.out) | exact HB.out)⟩
                                · rw [if_neg c18] at H
                                  have c18b0 : decide (4096 < ((rd_L7 (rd_L8 l1 x18_1) x42_3).length : Int)) = false := decide_eq_false c18
                                  have c18b1 : decide (4096 < (rd_L7 (rd_L8 l1 x18_1) x42_3).length) = false := decide_eq_false (by omega)
                                  clear c18
                                  replace H := Option.bind_eq_some_iff.mp H
                                  obtain ⟨t169, A190, H⟩ := H
                                  replace H : (if t169 = true then (some 89) else (job_Logs.l1 k3 l1 (l1.length : Int) x18_1 (rd_L8 l1 x18_1) ((rd_L8 l1 x18_1).length : Int) (wrap64 (x42_3 + 1)) l0_0)) = some r := H
                                  have A19 := Aside0.mk A190
                                  clear A190
                                  by_cases c20 : t169 = true
                                  · subst c20
                                    have H1 : (some 89) = some r := by rw [if_pos rfl] at H; exact H
                                    clear H
                                    have H := H1
                                    clear H1
                                    obtain rfl := Option.some.inj H
                                    have p168 : 0 ≤ (x42_3 : Int) := of_decide_eq_true (by first | (with_reducible assumption) | assumption)
                                    have q168 : x42_3 < ((rd_L8 l1 x18_1).length : Int) := of_decide_eq_true (by first | (with_reducible assumption) | assumption)
                                    obtain ⟨ad168, A168_0, c168_0, e168, hx168_0, hl168_0, hi168_0⟩ := at_L7 HR165_0.out x42_3 p168 q168
                                    cases e168
                                    replace hx168_0 := (HB.out.cell (World.block_lt_of_cell? w _ hx168_0)).trans hx168_0
                                    have HR168_0 := Aside0.mk hi168_0
                                    have HC168_0 := Aside0.mk hl168_0
                                    clear hi168_0 hl168_0
                                    replace p168 := eq_true p168
                                    replace q168 := eq_true q168
                                    go_wp2_with (first | (go_at_call 27; (with_reducible refine (api_Item__job_Logs_1.calls _ _ (rd_L7 (rd_L8 l1 x18_1) x42_3) () true _ ?side1 ?side2 A19.out).mono ?_); (case side1 => repeat (first | exact (Kd.C_below HR168_0.out HB.out) | (with_reducible refine Kd.C_alloc ?_ _) | (with_reducible refine Kd.C_drewN ?_ _) | (with_reducible refine Kd.C_drew ?_))); (case side2 => exact HC168_0.out); rintro e w21 ⟨rfl, hb⟩; have n0_ := Aside0.mk (blk_below (g := gb164) (o := .cells #[.slice (some ad166) l0_0.length c0_0] 24 (0, 0)) (by (with_reducible repeat (first | refine blk_drewN ?_ _ | refine blk_drew ?_ | refine blk_alloc ?_ _)); exact BK164.out) hb); have n1_ := Aside0.mk (below_step (by repeat (first | (with_reducible first | exact HB.out | apply below_alloc | apply pw_below_drewN | apply below_drew1 | refine below_set ?_ GE164.out) | exact HB.out)) hb); clear BK164; clear HB; have BK164 := n0_; have HB := n1_; clear n0_ n1_; (try clear hb); (try clear hb2); (try clear hk); (try clear hi)))
                                    go_ret
                                    exact ⟨by first | rfl | (simp [errW_none, errW_some] <;> rfl) | (simp [*, errW_none, errW_some] <;> rfl), by repeat (first | (with_reducible first | exact HB.out | apply below_alloc | apply pw_below_drewN | apply below_drew1 | refine below_set ?_ GE164.out) | exact HB.out)⟩
                                  · replace c20 := Bool.eq_false_iff.mpr c20
                                    subst c20
                                    have H1 : (job_Logs.l1 k3 l1 (l1.length : Int) x18_1 (rd_L8 l1 x18_1) ((rd_L8 l1 x18_1).length : Int) (wrap64 (x42_3 + 1)) l0_0) = some r := by rw [if_neg (show ¬ (false = true) by decide)] at H; exact H
                                    clear H
                                    have H := H1
                                    clear H1
                                    have H' := Aside0.mk H
                                    clear H
                                    have p168 : 0 ≤ (x42_3 : Int) := of_decide_eq_true (by first | (with_reducible assumption) | assumption)
                                    have q168 : x42_3 < ((rd_L8 l1 x18_1).length : Int) := of_decide_eq_true (by first | (with_reducible assumption) | assumption)
                                    obtain ⟨ad168, A168_0, c168_0, e168, hx168_0, hl168_0, hi168_0⟩ := at_L7 HR165_0.out x42_3 p168 q168
                                    cases e168
                                    replace hx168_0 := (HB.out.cell (World.block_lt_of_cell? w _ hx168_0)).trans hx168_0
                                    have HR168_0 := Aside0.mk hi168_0
                                    have HC168_0 := Aside0.mk hl168_0
                                    clear hi168_0 hl168_0
                                    replace p168 := eq_true p168
                                    replace q168 := eq_true q168
                                    go_wp2_with (first | (go_at_call 27; (with_reducible refine (api_Item__job_Logs_1.calls _ _ (rd_L7 (rd_L8 l1 x18_1) x42_3) () false _ ?side1 ?side2 A19.out).mono ?_); (case side1 => repeat (first | exact (Kd.C_below HR168_0.out HB.out) | (with_reducible refine Kd.C_alloc ?_ _) | (with_reducible refine Kd.C_drewN ?_ _) | (with_reducible refine Kd.C_drew ?_))); (case side2 => exact HC168_0.out); rintro e w22 ⟨rfl, hb⟩; have n0_ := Aside0.mk (blk_below (g := gb164) (o := .cells #[.slice (some ad166) l0_0.length c0_0] 24 (0, 0)) (by (with_reducible repeat (first | refine blk_drewN ?_ _ | refine blk_drew ?_ | refine blk_alloc ?_ _)); exact BK164.out) hb); have n1_ := Aside0.mk (below_step (by repeat (first | (with_reducible first | exact HB.out | apply below_alloc | apply pw_below_drewN | apply below_drew1 | refine below_set ?_ GE164.out) | exact HB.out)) hb); clear BK164; clear HB; have BK164 := n0_; have HB := n1_; clear n0_ n1_; (try clear hb); (try clear hb2); (try clear hk); (try clear hi)))
                                    go_roundg k3
                                    case measure => have := HK1.out; have := HJ9.out; have := HK3.out; omega
                                    case rel => exact ⟨(wrap64 (x42_3 + 1)), (by first | rfl | (simp; done) | (simp [*]; done)), H', ⟨by have := HK1.out; have := HJ9.out; have := HK3.out; omega⟩, ⟨by (with_reducible repeat (first | refine blk_drewN ?_ _ | refine blk_drew ?_ | refine blk_alloc ?_ _)); exact BK164.out⟩, ⟨by repeat (first | (with_reducible first | exact HB.out | apply below_alloc | apply pw_below_drewN | apply below_drew1 | refine below_set ?_ GE164.out) | exact HB.out)⟩⟩
                              · rw [if_neg c17] at H
                                exact absurd H (by simp)
                            · rw [if_neg c16] at H
                              exact absurd H (by simp)
                          · rw [if_neg c15] at H
                            have c15b0 : decide (x42_3 < ((rd_L8 l1 x18_1).length : Int)) = false := decide_eq_false c15
                            clear c15
                            have H' := Aside0.mk H
                            clear H
                            go_wp2
                            go_roundg k3
                            case measure => have := HK1.out; have := HJ9.out; have := HK3.out; omega
                            case rel => exact ⟨(wrap64 (x18_1 + 1)), (by first | rfl | (simp; done) | (simp [*]; done)), H', ⟨by have := HK1.out; have := HJ9.out; have := HK3.out; omega⟩, ⟨by (with_reducible repeat (first | refine blk_drewN ?_ _ | refine blk_drew ?_ | refine blk_alloc ?_ _)); exact BK164.out⟩, ⟨by repeat (first | (with_reducible first | exact HB.out | apply below_alloc | apply pw_below_drewN | apply below_drew1 | refine below_set ?_ GE164.out) | exact HB.out)⟩⟩
                    · rw [if_neg c14] at H
                      have c14b0 : (((rd_L8 l1 x18_1).length : Int) == x7_9) = false := beq_eq_false_iff_ne.mpr c14
                      have c14b1 : (((rd_L8 l1 x18_1).length : Int) != x7_9) = true := bne_iff_ne.mpr c14
                      obtain rfl := Option.some.inj H
                      go_wp2
                      go_ret
                      exact ⟨by first | rfl | (simp [errW_none, errW_some] <;> rfl) | (simp [*, errW_none, errW_some] <;> rfl), by repeat (first | (with_reducible first | exact HB.out | apply below_alloc | apply pw_below_drewN | apply below_drew1 | refine below_set ?_ GE164.out) | exact HB.out)⟩
              · rw [if_neg c9] at H
                exact absurd H (by simp)
            · rw [if_neg c8] at H
              exact absurd H (by simp)
          · rw [if_neg c7] at H
            exact absurd H (by simp)
        · rw [if_neg c6] at H
          have c6b0 : decide (x18_1 < (l1.length : Int)) = false := decide_eq_false c6
          clear c6
          obtain rfl := Option.some.inj H
          go_wp2
          go_ret
          exact ⟨by first | rfl | (simp [errW_none, errW_some] <;> rfl) | (simp [*, errW_none, errW_some] <;> rfl), by repeat (first | (with_reducible first | exact HB.out | apply below_alloc | apply pw_below_drewN | apply below_drew1 | refine below_set ?_ GE164.out) | exact HB.out)⟩
  · rw [if_neg c3] at H
    have c3b0 : ((l1.length : Int) == (l0_0.length : Int)) = false := beq_eq_false_iff_ne.mpr c3
    have c3b1 : ((l1.length : Int) != (l0_0.length : Int)) = true := bne_iff_ne.mpr c3
    have c3b2 : (l1.length == l0_0.length) = false := by first | simpa using c3 | (simp at c3 ⊢; omega)
    obtain rfl := Option.some.inj H
    go_enter Try.func14, Try.ntmps14
    go_wp2_with (first | ((with_reducible refine gate_dst (N := 2) rfl ?_); refine box_event ?hg (N := 2) ?hd (cs := #[.slice A0_0 l0_0.length c0_0]) (t := 24) ?hr ?_; (case hd => rfl); (case hg => rfl); (case hr => first | (go_simp; done) | (go_simp; rfl)); intro gb164 hg w23 hbox hb; have n0_ := Aside0.mk (below_step (by repeat (first | (with_reducible first | exact HB.out | apply below_alloc | apply pw_below_drewN | apply below_drew1) | exact HB.out)) hb); have n1_ := Aside0.mk (hbox); have n2_ := Aside0.mk ((by rw [hg]; exact (below_size (by repeat (first | (with_reducible first | exact HB.out | apply below_alloc | apply pw_below_drewN | apply below_drew1) | exact HB.out))) : w.heap.size ≤ gb164)); have n3_ := Aside0.mk ((by rw [hg]; exact (below_size (by repeat (first | (with_reducible first | exact HB.out | apply below_alloc | apply pw_below_drewN | apply below_drew1) | exact HB.out))) : w.heap.size ≤ gb164)); clear HB; have HB := n0_; have BK164 := n1_; have GW164 := n2_; have GE164 := n3_; clear n0_ n1_ n2_ n3_; clear hb hbox hg; have hcz24_0 : w23.cell? ⟨gb164, 0, none⟩ = some (.slice A0_0 l0_0.length c0_0) := (blk_cell BK164.out 0).trans rfl; have hfz24_0 := blk_frozen BK164.out 0))
    go_ret
    exact ⟨by first | rfl | (simp [errW_none, errW_some] <;> rfl) | (simp [*, errW_none, errW_some] <;> rfl), by repeat (first | (with_reducible first | exact HB.out | apply below_alloc | apply pw_below_drewN | apply below_drew1 | refine below_set ?_ GE164.out) | exact HB.out)⟩

end Go.Proofs.Ytpbmfdbfimcpjaa.X
